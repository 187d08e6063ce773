/- That FlatSurfaces returns true for all patterns. Conditions: none. -/
import Derived.Test.YtohecfbnmmgimaaSf5
import Derived.Test.YtohecfbnmmgimaaSf6
import Derived.Test.YtohecfbnmmgimaaRows
import Derived.HandedShaped
namespace Go.Proofs.Ytohecfbnmmgimaa
open Go.Vm Go.RowKit
set_option linter.unusedVariables false
noncomputable section
def k_flat_alone_0 (F : Nat) (Post : AVal UU → Prop) : AEx → ASt UU → Prop := kBlock 0 (kSeq C_flat_area Try.f49.ntmps M_flat_alone F 0 (cS (cS (cS (bo Try.f49)))) (AEnds C_flat_area false Try.f49 Post))
def k_flat_alone_1 (F n r : Nat) (K : AEx → ASt UU → Prop) : AEx → ASt UU → Prop := kBlock 2 (kBlock 1 (kSeq C_flat_area Try.f49.ntmps M_flat_alone F 0 (cS (cS (cS (cL (cB (cS (cF (cS (cS (bo Try.f49)))))))))) (kIter (exec C_flat_area Try.f49.ntmps M_flat_alone F 0 (cL (cB (cS (cF (cS (cS (bo Try.f49)))))))) (M_flat_alone 0) n r K)))
set_option maxRecDepth 100000 in
theorem step_flat_alone_0 (F n r : Nat) (K : AEx → ASt UU → Prop) (t2 : List Rect) (t17 : List Rect) (t18 : Int) (t19 : Int) (c3_0 : Int) (c3_1 : Int) (c3_2 : Int) (c3_3 : Int) (l58 : List Rect) (l59 : List Rect) : iter (exec C_flat_area Try.f49.ntmps M_flat_alone F 0 (cL (cB (cS (cF (cS (cS (bo Try.f49)))))))) (M_flat_alone 0) (n + 1) r (st_flat_alone_0 t2 t17 t18 t19 c3_0 c3_1 c3_2 c3_3 l58 l59) K = g_flat_alone_s0 (fun t2 t17 t18 t19 c3_0 c3_1 c3_2 c3_3 l58 l59 => iter (exec C_flat_area Try.f49.ntmps M_flat_alone F 0 (cL (cB (cS (cF (cS (cS (bo Try.f49)))))))) (M_flat_alone 0) n (r + 1) (st_flat_alone_0 t2 t17 t18 t19 c3_0 c3_1 c3_2 c3_3 l58 l59) K) (fun t2 t17 t18 t19 c3_0 c3_1 c3_2 c3_3 l58 l59 => K (.exit 0) (st_flat_alone_0 t2 t17 t18 t19 c3_0 c3_1 c3_2 c3_3 l58 l59)) t2 t17 t18 t19 c3_0 c3_1 c3_2 c3_3 l58 l59 (fun t2 t17 t18 t19 t34 t35 t36 c3_0 c3_1 c3_2 c3_3 c11_0 c11_1 c11_2 c11_3 l58 l59 => iter (exec C_flat_area Try.f49.ntmps M_flat_alone F 2 (cL (cB (cS (cS (cT (cS (cS (cS (cB (cF (cS (cS (cL (cB (cS (cF (cS (cS (bo Try.f49)))))))))))))))))))) (M_flat_alone 2) F 0 (st_flat_alone_1 t2 t17 t18 t19 t34 t35 t36 c3_0 c3_1 c3_2 c3_3 c11_0 c11_1 c11_2 c11_3 l58 l59) (k_flat_alone_1 F n r K)) := by kernel_rfl
set_option maxRecDepth 100000 in
theorem cont_flat_alone_0_0 (F : Nat) (Post : AVal UU → Prop) (t2 : List Rect) (t17 : List Rect) (t18 : Int) (t19 : Int) (c3_0 : Int) (c3_1 : Int) (c3_2 : Int) (c3_3 : Int) (l58 : List Rect) (l59 : List Rect) : k_flat_alone_0 F Post (.exit 0) (st_flat_alone_0 t2 t17 t18 t19 c3_0 c3_1 c3_2 c3_3 l58 l59) = g_flat_alone_c0_0 (fun r0 => Post (.int .i64 r0)) t2 t17 t18 t19 c3_0 c3_1 c3_2 c3_3 l58 l59 := by kernel_rfl
set_option maxRecDepth 100000 in
theorem step_flat_alone_1 (F n r : Nat) (K : AEx → ASt UU → Prop) (t2 : List Rect) (t17 : List Rect) (t18 : Int) (t19 : Int) (t34 : List Rect) (t35 : Int) (t36 : Int) (c3_0 : Int) (c3_1 : Int) (c3_2 : Int) (c3_3 : Int) (c11_0 : Int) (c11_1 : Int) (c11_2 : Int) (c11_3 : Int) (l58 : List Rect) (l59 : List Rect) : iter (exec C_flat_area Try.f49.ntmps M_flat_alone F 2 (cL (cB (cS (cS (cT (cS (cS (cS (cB (cF (cS (cS (cL (cB (cS (cF (cS (cS (bo Try.f49)))))))))))))))))))) (M_flat_alone 2) (n + 1) r (st_flat_alone_1 t2 t17 t18 t19 t34 t35 t36 c3_0 c3_1 c3_2 c3_3 c11_0 c11_1 c11_2 c11_3 l58 l59) K = g_flat_alone_s1 (fun t2 t17 t18 t19 t34 t35 t36 c3_0 c3_1 c3_2 c3_3 c11_0 c11_1 c11_2 c11_3 l58 l59 => iter (exec C_flat_area Try.f49.ntmps M_flat_alone F 2 (cL (cB (cS (cS (cT (cS (cS (cS (cB (cF (cS (cS (cL (cB (cS (cF (cS (cS (bo Try.f49)))))))))))))))))))) (M_flat_alone 2) n (r + 1) (st_flat_alone_1 t2 t17 t18 t19 t34 t35 t36 c3_0 c3_1 c3_2 c3_3 c11_0 c11_1 c11_2 c11_3 l58 l59) K) (fun t2 t17 t18 t19 t34 t35 t36 c3_0 c3_1 c3_2 c3_3 c11_0 c11_1 c11_2 c11_3 l58 l59 => K (.exit 2) (st_flat_alone_1 t2 t17 t18 t19 t34 t35 t36 c3_0 c3_1 c3_2 c3_3 c11_0 c11_1 c11_2 c11_3 l58 l59)) t2 t17 t18 t19 t34 t35 t36 c3_0 c3_1 c3_2 c3_3 c11_0 c11_1 c11_2 c11_3 l58 l59 := by kernel_rfl
set_option maxRecDepth 100000 in
theorem cont_flat_alone_1_0 (F n r : Nat) (K : AEx → ASt UU → Prop) (t2 : List Rect) (t17 : List Rect) (t18 : Int) (t19 : Int) (t34 : List Rect) (t35 : Int) (t36 : Int) (c3_0 : Int) (c3_1 : Int) (c3_2 : Int) (c3_3 : Int) (c11_0 : Int) (c11_1 : Int) (c11_2 : Int) (c11_3 : Int) (l58 : List Rect) (l59 : List Rect) : k_flat_alone_1 F n r K (.exit 2) (st_flat_alone_1 t2 t17 t18 t19 t34 t35 t36 c3_0 c3_1 c3_2 c3_3 c11_0 c11_1 c11_2 c11_3 l58 l59) = g_flat_alone_c1_0 (fun t2 t17 t18 t19 c3_0 c3_1 c3_2 c3_3 l58 l59 => iter (exec C_flat_area Try.f49.ntmps M_flat_alone F 0 (cL (cB (cS (cF (cS (cS (bo Try.f49)))))))) (M_flat_alone 0) n (r + 1) (st_flat_alone_0 t2 t17 t18 t19 c3_0 c3_1 c3_2 c3_3 l58 l59) K) (fun t2 t17 t18 t19 c3_0 c3_1 c3_2 c3_3 l58 l59 => K (.exit 0) (st_flat_alone_0 t2 t17 t18 t19 c3_0 c3_1 c3_2 c3_3 l58 l59)) t2 t17 t18 t19 t34 t35 t36 c3_0 c3_1 c3_2 c3_3 c11_0 c11_1 c11_2 c11_3 l58 l59 := by kernel_rfl
set_option maxRecDepth 100000 in
theorem entry_flat_alone (F : Nat) (Post : AVal UU → Prop) (a0_X : Int) (a0_Y : Int) (a0_W : Int) (a0_H : Int) (a1 : List Rect) (a2 : List Rect) : exec C_flat_area Try.f49.ntmps M_flat_alone F 0 (bo Try.f49) (initSt [.agg [.int .i64 a0_X, .int .i64 a0_Y, .int .i64 a0_W, .int .i64 a0_H], .sl .rect a1, .sl .rect a2]) (AEnds C_flat_area false Try.f49 Post) = g_flat_alone_e a0_X a0_Y a0_W a0_H a1 a2 (fun r0 => Post (.int .i64 r0)) (fun t2 t17 t18 t19 c3_0 c3_1 c3_2 c3_3 l58 l59 => iter (exec C_flat_area Try.f49.ntmps M_flat_alone F 0 (cL (cB (cS (cF (cS (cS (bo Try.f49)))))))) (M_flat_alone 0) F 0 (st_flat_alone_0 t2 t17 t18 t19 c3_0 c3_1 c3_2 c3_3 l58 l59) (k_flat_alone_0 F Post)) := by kernel_rfl
theorem loop_flat_alone_1 (F : Nat) (K : AEx → ASt UU → Prop) : ∀ (n r : Nat) (t2 : List Rect) (t17 : List Rect) (t18 : Int) (t19 : Int) (t34 : List Rect) (t35 : Int) (t36 : Int) (c3_0 : Int) (c3_1 : Int) (c3_2 : Int) (c3_3 : Int) (c11_0 : Int) (c11_1 : Int) (c11_2 : Int) (c11_3 : Int) (l58 : List Rect) (l59 : List Rect), iter (exec C_flat_area Try.f49.ntmps M_flat_alone F 2 (cL (cB (cS (cS (cT (cS (cS (cS (cB (cF (cS (cS (cL (cB (cS (cF (cS (cS (bo Try.f49)))))))))))))))))))) (M_flat_alone 2) n r (st_flat_alone_1 t2 t17 t18 t19 t34 t35 t36 c3_0 c3_1 c3_2 c3_3 c11_0 c11_1 c11_2 c11_3 l58 l59) K = w_flat_alone_1 F  (fun t2 t17 t18 t19 t34 t35 t36 c3_0 c3_1 c3_2 c3_3 c11_0 c11_1 c11_2 c11_3 l58 l59 => K (.exit 2) (st_flat_alone_1 t2 t17 t18 t19 t34 t35 t36 c3_0 c3_1 c3_2 c3_3 c11_0 c11_1 c11_2 c11_3 l58 l59)) n t2 t17 t18 t19 t34 t35 t36 c3_0 c3_1 c3_2 c3_3 c11_0 c11_1 c11_2 c11_3 l58 l59 := by
  intro n
  induction n with
  | zero => intros; rfl
  | succ n ih =>
    intro r t2 t17 t18 t19 t34 t35 t36 c3_0 c3_1 c3_2 c3_3 c11_0 c11_1 c11_2 c11_3 l58 l59
    have e : (fun t2 t17 t18 t19 t34 t35 t36 c3_0 c3_1 c3_2 c3_3 c11_0 c11_1 c11_2 c11_3 l58 l59 => iter (exec C_flat_area Try.f49.ntmps M_flat_alone F 2 (cL (cB (cS (cS (cT (cS (cS (cS (cB (cF (cS (cS (cL (cB (cS (cF (cS (cS (bo Try.f49)))))))))))))))))))) (M_flat_alone 2) n (r + 1) (st_flat_alone_1 t2 t17 t18 t19 t34 t35 t36 c3_0 c3_1 c3_2 c3_3 c11_0 c11_1 c11_2 c11_3 l58 l59) K) = w_flat_alone_1 F  (fun t2 t17 t18 t19 t34 t35 t36 c3_0 c3_1 c3_2 c3_3 c11_0 c11_1 c11_2 c11_3 l58 l59 => K (.exit 2) (st_flat_alone_1 t2 t17 t18 t19 t34 t35 t36 c3_0 c3_1 c3_2 c3_3 c11_0 c11_1 c11_2 c11_3 l58 l59)) n := by
      funext t2 t17 t18 t19 t34 t35 t36 c3_0 c3_1 c3_2 c3_3 c11_0 c11_1 c11_2 c11_3 l58 l59
      exact ih (r + 1) t2 t17 t18 t19 t34 t35 t36 c3_0 c3_1 c3_2 c3_3 c11_0 c11_1 c11_2 c11_3 l58 l59
    rw [step_flat_alone_1, e]
    rfl
theorem nl_flat_alone_1 (F n r : Nat) (K : AEx → ASt UU → Prop) (t2 : List Rect) (t17 : List Rect) (t18 : Int) (t19 : Int) (t34 : List Rect) (t35 : Int) (t36 : Int) (c3_0 : Int) (c3_1 : Int) (c3_2 : Int) (c3_3 : Int) (c11_0 : Int) (c11_1 : Int) (c11_2 : Int) (c11_3 : Int) (l58 : List Rect) (l59 : List Rect) : iter (exec C_flat_area Try.f49.ntmps M_flat_alone F 2 (cL (cB (cS (cS (cT (cS (cS (cS (cB (cF (cS (cS (cL (cB (cS (cF (cS (cS (bo Try.f49)))))))))))))))))))) (M_flat_alone 2) F 0 (st_flat_alone_1 t2 t17 t18 t19 t34 t35 t36 c3_0 c3_1 c3_2 c3_3 c11_0 c11_1 c11_2 c11_3 l58 l59) (k_flat_alone_1 F n r K) = n_flat_alone_1 F (fun t2 t17 t18 t19 c3_0 c3_1 c3_2 c3_3 l58 l59 => iter (exec C_flat_area Try.f49.ntmps M_flat_alone F 0 (cL (cB (cS (cF (cS (cS (bo Try.f49)))))))) (M_flat_alone 0) n (r + 1) (st_flat_alone_0 t2 t17 t18 t19 c3_0 c3_1 c3_2 c3_3 l58 l59) K) (fun t2 t17 t18 t19 c3_0 c3_1 c3_2 c3_3 l58 l59 => K (.exit 0) (st_flat_alone_0 t2 t17 t18 t19 c3_0 c3_1 c3_2 c3_3 l58 l59)) t2 t17 t18 t19 t34 t35 t36 c3_0 c3_1 c3_2 c3_3 c11_0 c11_1 c11_2 c11_3 l58 l59 := by
  rw [loop_flat_alone_1]
  have h0 : (fun t2 t17 t18 t19 t34 t35 t36 c3_0 c3_1 c3_2 c3_3 c11_0 c11_1 c11_2 c11_3 l58 l59 => k_flat_alone_1 F n r K (.exit 2) (st_flat_alone_1 t2 t17 t18 t19 t34 t35 t36 c3_0 c3_1 c3_2 c3_3 c11_0 c11_1 c11_2 c11_3 l58 l59)) = (fun t2 t17 t18 t19 t34 t35 t36 c3_0 c3_1 c3_2 c3_3 c11_0 c11_1 c11_2 c11_3 l58 l59 => g_flat_alone_c1_0 (fun t2 t17 t18 t19 c3_0 c3_1 c3_2 c3_3 l58 l59 => iter (exec C_flat_area Try.f49.ntmps M_flat_alone F 0 (cL (cB (cS (cF (cS (cS (bo Try.f49)))))))) (M_flat_alone 0) n (r + 1) (st_flat_alone_0 t2 t17 t18 t19 c3_0 c3_1 c3_2 c3_3 l58 l59) K) (fun t2 t17 t18 t19 c3_0 c3_1 c3_2 c3_3 l58 l59 => K (.exit 0) (st_flat_alone_0 t2 t17 t18 t19 c3_0 c3_1 c3_2 c3_3 l58 l59)) t2 t17 t18 t19 t34 t35 t36 c3_0 c3_1 c3_2 c3_3 c11_0 c11_1 c11_2 c11_3 l58 l59) := by
    funext t2 t17 t18 t19 t34 t35 t36 c3_0 c3_1 c3_2 c3_3 c11_0 c11_1 c11_2 c11_3 l58 l59
    rw [cont_flat_alone_1_0]
  rw [h0]
  rfl
theorem loop_flat_alone_0 (F : Nat) (K : AEx → ASt UU → Prop) : ∀ (n r : Nat) (t2 : List Rect) (t17 : List Rect) (t18 : Int) (t19 : Int) (c3_0 : Int) (c3_1 : Int) (c3_2 : Int) (c3_3 : Int) (l58 : List Rect) (l59 : List Rect), iter (exec C_flat_area Try.f49.ntmps M_flat_alone F 0 (cL (cB (cS (cF (cS (cS (bo Try.f49)))))))) (M_flat_alone 0) n r (st_flat_alone_0 t2 t17 t18 t19 c3_0 c3_1 c3_2 c3_3 l58 l59) K = w_flat_alone_0 F  (fun t2 t17 t18 t19 c3_0 c3_1 c3_2 c3_3 l58 l59 => K (.exit 0) (st_flat_alone_0 t2 t17 t18 t19 c3_0 c3_1 c3_2 c3_3 l58 l59)) n t2 t17 t18 t19 c3_0 c3_1 c3_2 c3_3 l58 l59 := by
  intro n
  induction n with
  | zero => intros; rfl
  | succ n ih =>
    intro r t2 t17 t18 t19 c3_0 c3_1 c3_2 c3_3 l58 l59
    have e : (fun t2 t17 t18 t19 c3_0 c3_1 c3_2 c3_3 l58 l59 => iter (exec C_flat_area Try.f49.ntmps M_flat_alone F 0 (cL (cB (cS (cF (cS (cS (bo Try.f49)))))))) (M_flat_alone 0) n (r + 1) (st_flat_alone_0 t2 t17 t18 t19 c3_0 c3_1 c3_2 c3_3 l58 l59) K) = w_flat_alone_0 F  (fun t2 t17 t18 t19 c3_0 c3_1 c3_2 c3_3 l58 l59 => K (.exit 0) (st_flat_alone_0 t2 t17 t18 t19 c3_0 c3_1 c3_2 c3_3 l58 l59)) n := by
      funext t2 t17 t18 t19 c3_0 c3_1 c3_2 c3_3 l58 l59
      exact ih (r + 1) t2 t17 t18 t19 c3_0 c3_1 c3_2 c3_3 l58 l59
    have e1 : (fun t2 t17 t18 t19 t34 t35 t36 c3_0 c3_1 c3_2 c3_3 c11_0 c11_1 c11_2 c11_3 l58 l59 => iter (exec C_flat_area Try.f49.ntmps M_flat_alone F 2 (cL (cB (cS (cS (cT (cS (cS (cS (cB (cF (cS (cS (cL (cB (cS (cF (cS (cS (bo Try.f49)))))))))))))))))))) (M_flat_alone 2) F 0 (st_flat_alone_1 t2 t17 t18 t19 t34 t35 t36 c3_0 c3_1 c3_2 c3_3 c11_0 c11_1 c11_2 c11_3 l58 l59) (k_flat_alone_1 F n r K)) = (n_flat_alone_1 F (fun t2 t17 t18 t19 c3_0 c3_1 c3_2 c3_3 l58 l59 => iter (exec C_flat_area Try.f49.ntmps M_flat_alone F 0 (cL (cB (cS (cF (cS (cS (bo Try.f49)))))))) (M_flat_alone 0) n (r + 1) (st_flat_alone_0 t2 t17 t18 t19 c3_0 c3_1 c3_2 c3_3 l58 l59) K) (fun t2 t17 t18 t19 c3_0 c3_1 c3_2 c3_3 l58 l59 => K (.exit 0) (st_flat_alone_0 t2 t17 t18 t19 c3_0 c3_1 c3_2 c3_3 l58 l59))) := by
      funext t2 t17 t18 t19 t34 t35 t36 c3_0 c3_1 c3_2 c3_3 c11_0 c11_1 c11_2 c11_3 l58 l59
      exact nl_flat_alone_1 F n r K t2 t17 t18 t19 t34 t35 t36 c3_0 c3_1 c3_2 c3_3 c11_0 c11_1 c11_2 c11_3 l58 l59
    rw [step_flat_alone_0, e1, e]
    rfl
theorem nl_flat_alone_0 (F : Nat) (Post : AVal UU → Prop) (t2 : List Rect) (t17 : List Rect) (t18 : Int) (t19 : Int) (c3_0 : Int) (c3_1 : Int) (c3_2 : Int) (c3_3 : Int) (l58 : List Rect) (l59 : List Rect) : iter (exec C_flat_area Try.f49.ntmps M_flat_alone F 0 (cL (cB (cS (cF (cS (cS (bo Try.f49)))))))) (M_flat_alone 0) F 0 (st_flat_alone_0 t2 t17 t18 t19 c3_0 c3_1 c3_2 c3_3 l58 l59) (k_flat_alone_0 F Post) = n_flat_alone_0 F (fun r0 => Post (.int .i64 r0)) t2 t17 t18 t19 c3_0 c3_1 c3_2 c3_3 l58 l59 := by
  rw [loop_flat_alone_0]
  have h0 : (fun t2 t17 t18 t19 c3_0 c3_1 c3_2 c3_3 l58 l59 => k_flat_alone_0 F Post (.exit 0) (st_flat_alone_0 t2 t17 t18 t19 c3_0 c3_1 c3_2 c3_3 l58 l59)) = (fun t2 t17 t18 t19 c3_0 c3_1 c3_2 c3_3 l58 l59 => g_flat_alone_c0_0 (fun r0 => Post (.int .i64 r0)) t2 t17 t18 t19 c3_0 c3_1 c3_2 c3_3 l58 l59) := by
    funext t2 t17 t18 t19 c3_0 c3_1 c3_2 c3_3 l58 l59
    rw [cont_flat_alone_0_0]
  rw [h0]
  rfl
theorem exec_flat_alone (F : Nat) (Post : AVal UU → Prop) (a0_X : Int) (a0_Y : Int) (a0_W : Int) (a0_H : Int) (a1 : List Rect) (a2 : List Rect) : exec C_flat_area Try.f49.ntmps M_flat_alone F 0 (bo Try.f49) (initSt [.agg [.int .i64 a0_X, .int .i64 a0_Y, .int .i64 a0_W, .int .i64 a0_H], .sl .rect a1, .sl .rect a2]) (AEnds C_flat_area false Try.f49 Post) = w_flat_alone F a0_X a0_Y a0_W a0_H a1 a2 (fun r0 => Post (.int .i64 r0)) := by
  rw [entry_flat_alone]
  have e0 : (fun t2 t17 t18 t19 c3_0 c3_1 c3_2 c3_3 l58 l59 => iter (exec C_flat_area Try.f49.ntmps M_flat_alone F 0 (cL (cB (cS (cF (cS (cS (bo Try.f49)))))))) (M_flat_alone 0) F 0 (st_flat_alone_0 t2 t17 t18 t19 c3_0 c3_1 c3_2 c3_3 l58 l59) (k_flat_alone_0 F Post)) = (n_flat_alone_0 F (fun r0 => Post (.int .i64 r0))) := by
    funext t2 t17 t18 t19 c3_0 c3_1 c3_2 c3_3 l58 l59
    exact nl_flat_alone_0 F Post t2 t17 t18 t19 c3_0 c3_1 c3_2 c3_3 l58 l59
  rw [e0]
  rfl
def m_flat_alone : Model UU
  | [.agg [.int .i64 a0_X, .int .i64 a0_Y, .int .i64 a0_W, .int .i64 a0_H], .sl .rect a1, .sl .rect a2] => some ([pre_flat_alone a0_X a0_Y a0_W a0_H a1 a2], .int .i64 (sp_flat_alone a0_X a0_Y a0_W a0_H a1 a2))
  | _ => none
def C_flat_alone : Cfg UU := C_flat_area.add 49 m_flat_alone
theorem s_flat_alone : SumOK C_flat_alone := by
  refine s_flat_area.addD mixed (fn := Try.f49) (c := bo Try.f49) Try.func49 (by kernel_rfl) (by kernel_rfl) ?_
  intro xs cs r h hc
  unfold m_flat_alone at h
  split at h
  · rename_i a0_X a0_Y a0_W a0_H a1 a2
    cases h
    obtain ⟨F, hF⟩ := ok_flat_alone a0_X a0_Y a0_W a0_H a1 a2 hc
    refine ⟨by kernel_rfl, M_flat_alone, F, false, ⟨?_⟩⟩
    rw [exec_flat_alone]
    refine hF _ ?_
    rfl
  · cases h
end
end Go.Proofs.Ytohecfbnmmgimaa

namespace Go.Proofs.Ytohecfbnmmgimaa
open Go.Vm Go.RowKit
set_option linter.unusedVariables false
noncomputable section
def k_flat_Surface_0 (F : Nat) (Post : AVal UU → Prop) : AEx → ASt UU → Prop := kBlock 0 (kSeq C_flat_alone Try.f23.ntmps M_flat_Surface F 0 (cS (cS (cS (cS (cS (cS (bo Try.f23))))))) (AEnds C_flat_alone false Try.f23 Post))
set_option maxRecDepth 100000 in
theorem step_flat_Surface_0 (F n r : Nat) (K : AEx → ASt UU → Prop) (t5 : Int) (t7 : Int) (t25 : List Rect) (t26 : Int) (t27 : Int) (c1_0 : List Rect) (c1_1 : List Rect) (c1_2 : List Rect) (c1_3 : List Bend) : iter (exec C_flat_alone Try.f23.ntmps M_flat_Surface F 0 (cL (cB (cS (cF (cS (cS (cS (cS (cS (bo Try.f23))))))))))) (M_flat_Surface 0) (n + 1) r (st_flat_Surface_0 t5 t7 t25 t26 t27 c1_0 c1_1 c1_2 c1_3) K = g_flat_Surface_s0 (fun t5 t7 t25 t26 t27 c1_0 c1_1 c1_2 c1_3 => iter (exec C_flat_alone Try.f23.ntmps M_flat_Surface F 0 (cL (cB (cS (cF (cS (cS (cS (cS (cS (bo Try.f23))))))))))) (M_flat_Surface 0) n (r + 1) (st_flat_Surface_0 t5 t7 t25 t26 t27 c1_0 c1_1 c1_2 c1_3) K) (fun t5 t7 t25 t26 t27 c1_0 c1_1 c1_2 c1_3 => K (.exit 0) (st_flat_Surface_0 t5 t7 t25 t26 t27 c1_0 c1_1 c1_2 c1_3)) t5 t7 t25 t26 t27 c1_0 c1_1 c1_2 c1_3 := by kernel_rfl
set_option maxRecDepth 100000 in
theorem cont_flat_Surface_0_0 (F : Nat) (Post : AVal UU → Prop) (t5 : Int) (t7 : Int) (t25 : List Rect) (t26 : Int) (t27 : Int) (c1_0 : List Rect) (c1_1 : List Rect) (c1_2 : List Rect) (c1_3 : List Bend) : k_flat_Surface_0 F Post (.exit 0) (st_flat_Surface_0 t5 t7 t25 t26 t27 c1_0 c1_1 c1_2 c1_3) = g_flat_Surface_c0_0 (fun r0 r1 => Post (.tup [.int .i64 r0, .int .i64 r1])) t5 t7 t25 t26 t27 c1_0 c1_1 c1_2 c1_3 := by kernel_rfl
set_option maxRecDepth 100000 in
theorem entry_flat_Surface (F : Nat) (Post : AVal UU → Prop) (a0_Rects : List Rect) (a0_Cuts : List Rect) (a0_Forms : List Rect) (a0_Bends : List Bend) : exec C_flat_alone Try.f23.ntmps M_flat_Surface F 0 (bo Try.f23) (initSt [.agg [.sl .rect a0_Rects, .sl .rect a0_Cuts, .sl .rect a0_Forms, .sl .bend a0_Bends]]) (AEnds C_flat_alone false Try.f23 Post) = g_flat_Surface_e a0_Rects a0_Cuts a0_Forms a0_Bends (fun r0 r1 => Post (.tup [.int .i64 r0, .int .i64 r1])) (fun t5 t7 t25 t26 t27 c1_0 c1_1 c1_2 c1_3 => iter (exec C_flat_alone Try.f23.ntmps M_flat_Surface F 0 (cL (cB (cS (cF (cS (cS (cS (cS (cS (bo Try.f23))))))))))) (M_flat_Surface 0) F 0 (st_flat_Surface_0 t5 t7 t25 t26 t27 c1_0 c1_1 c1_2 c1_3) (k_flat_Surface_0 F Post)) := by kernel_rfl
theorem loop_flat_Surface_0 (F : Nat) (K : AEx → ASt UU → Prop) : ∀ (n r : Nat) (t5 : Int) (t7 : Int) (t25 : List Rect) (t26 : Int) (t27 : Int) (c1_0 : List Rect) (c1_1 : List Rect) (c1_2 : List Rect) (c1_3 : List Bend), iter (exec C_flat_alone Try.f23.ntmps M_flat_Surface F 0 (cL (cB (cS (cF (cS (cS (cS (cS (cS (bo Try.f23))))))))))) (M_flat_Surface 0) n r (st_flat_Surface_0 t5 t7 t25 t26 t27 c1_0 c1_1 c1_2 c1_3) K = w_flat_Surface_0 F  (fun t5 t7 t25 t26 t27 c1_0 c1_1 c1_2 c1_3 => K (.exit 0) (st_flat_Surface_0 t5 t7 t25 t26 t27 c1_0 c1_1 c1_2 c1_3)) n t5 t7 t25 t26 t27 c1_0 c1_1 c1_2 c1_3 := by
  intro n
  induction n with
  | zero => intros; rfl
  | succ n ih =>
    intro r t5 t7 t25 t26 t27 c1_0 c1_1 c1_2 c1_3
    have e : (fun t5 t7 t25 t26 t27 c1_0 c1_1 c1_2 c1_3 => iter (exec C_flat_alone Try.f23.ntmps M_flat_Surface F 0 (cL (cB (cS (cF (cS (cS (cS (cS (cS (bo Try.f23))))))))))) (M_flat_Surface 0) n (r + 1) (st_flat_Surface_0 t5 t7 t25 t26 t27 c1_0 c1_1 c1_2 c1_3) K) = w_flat_Surface_0 F  (fun t5 t7 t25 t26 t27 c1_0 c1_1 c1_2 c1_3 => K (.exit 0) (st_flat_Surface_0 t5 t7 t25 t26 t27 c1_0 c1_1 c1_2 c1_3)) n := by
      funext t5 t7 t25 t26 t27 c1_0 c1_1 c1_2 c1_3
      exact ih (r + 1) t5 t7 t25 t26 t27 c1_0 c1_1 c1_2 c1_3
    rw [step_flat_Surface_0, e]
    rfl
theorem nl_flat_Surface_0 (F : Nat) (Post : AVal UU → Prop) (t5 : Int) (t7 : Int) (t25 : List Rect) (t26 : Int) (t27 : Int) (c1_0 : List Rect) (c1_1 : List Rect) (c1_2 : List Rect) (c1_3 : List Bend) : iter (exec C_flat_alone Try.f23.ntmps M_flat_Surface F 0 (cL (cB (cS (cF (cS (cS (cS (cS (cS (bo Try.f23))))))))))) (M_flat_Surface 0) F 0 (st_flat_Surface_0 t5 t7 t25 t26 t27 c1_0 c1_1 c1_2 c1_3) (k_flat_Surface_0 F Post) = n_flat_Surface_0 F (fun r0 r1 => Post (.tup [.int .i64 r0, .int .i64 r1])) t5 t7 t25 t26 t27 c1_0 c1_1 c1_2 c1_3 := by
  rw [loop_flat_Surface_0]
  have h0 : (fun t5 t7 t25 t26 t27 c1_0 c1_1 c1_2 c1_3 => k_flat_Surface_0 F Post (.exit 0) (st_flat_Surface_0 t5 t7 t25 t26 t27 c1_0 c1_1 c1_2 c1_3)) = (fun t5 t7 t25 t26 t27 c1_0 c1_1 c1_2 c1_3 => g_flat_Surface_c0_0 (fun r0 r1 => Post (.tup [.int .i64 r0, .int .i64 r1])) t5 t7 t25 t26 t27 c1_0 c1_1 c1_2 c1_3) := by
    funext t5 t7 t25 t26 t27 c1_0 c1_1 c1_2 c1_3
    rw [cont_flat_Surface_0_0]
  rw [h0]
  rfl
theorem exec_flat_Surface (F : Nat) (Post : AVal UU → Prop) (a0_Rects : List Rect) (a0_Cuts : List Rect) (a0_Forms : List Rect) (a0_Bends : List Bend) : exec C_flat_alone Try.f23.ntmps M_flat_Surface F 0 (bo Try.f23) (initSt [.agg [.sl .rect a0_Rects, .sl .rect a0_Cuts, .sl .rect a0_Forms, .sl .bend a0_Bends]]) (AEnds C_flat_alone false Try.f23 Post) = w_flat_Surface F a0_Rects a0_Cuts a0_Forms a0_Bends (fun r0 r1 => Post (.tup [.int .i64 r0, .int .i64 r1])) := by
  rw [entry_flat_Surface]
  have e0 : (fun t5 t7 t25 t26 t27 c1_0 c1_1 c1_2 c1_3 => iter (exec C_flat_alone Try.f23.ntmps M_flat_Surface F 0 (cL (cB (cS (cF (cS (cS (cS (cS (cS (bo Try.f23))))))))))) (M_flat_Surface 0) F 0 (st_flat_Surface_0 t5 t7 t25 t26 t27 c1_0 c1_1 c1_2 c1_3) (k_flat_Surface_0 F Post)) = (n_flat_Surface_0 F (fun r0 r1 => Post (.tup [.int .i64 r0, .int .i64 r1]))) := by
    funext t5 t7 t25 t26 t27 c1_0 c1_1 c1_2 c1_3
    exact nl_flat_Surface_0 F Post t5 t7 t25 t26 t27 c1_0 c1_1 c1_2 c1_3
  rw [e0]
  rfl
def m_flat_Surface : Model UU
  | [.agg [.sl .rect a0_Rects, .sl .rect a0_Cuts, .sl .rect a0_Forms, .sl .bend a0_Bends]] => some ([pre_flat_Surface a0_Rects a0_Cuts a0_Forms a0_Bends], .tup [.int .i64 ((sp_flat_Surface a0_Rects a0_Cuts a0_Forms a0_Bends).1), .int .i64 ((sp_flat_Surface a0_Rects a0_Cuts a0_Forms a0_Bends).2)])
  | _ => none
def C_flat_Surface : Cfg UU := C_flat_alone.add 23 m_flat_Surface
theorem s_flat_Surface : SumOK C_flat_Surface := by
  refine s_flat_alone.addD mixed (fn := Try.f23) (c := bo Try.f23) Try.func23 (by kernel_rfl) (by kernel_rfl) ?_
  intro xs cs r h hc
  unfold m_flat_Surface at h
  split at h
  · rename_i a0_Rects a0_Cuts a0_Forms a0_Bends
    cases h
    obtain ⟨F, hF⟩ := ok_flat_Surface a0_Rects a0_Cuts a0_Forms a0_Bends hc
    refine ⟨by kernel_rfl, M_flat_Surface, F, false, ⟨?_⟩⟩
    rw [exec_flat_Surface]
    refine hF _ ?_
    rfl
  · cases h
end
end Go.Proofs.Ytohecfbnmmgimaa

namespace Go.Proofs.Ytohecfbnmmgimaa
open Go.Vm Go.RowKit
set_option linter.unusedVariables false
noncomputable section
def k_ref01_insert_0 (F : Nat) (Post : AVal UU → Prop) : AEx → ASt UU → Prop := kBlock 0 (kSeq C_flat_Surface Try.f76.ntmps M_ref01_insert F 0 (cS (cS (cS (cS (bo Try.f76))))) (AEnds C_flat_Surface false Try.f76 Post))
set_option maxRecDepth 100000 in
theorem step_ref01_insert_0 (F n r : Nat) (K : AEx → ASt UU → Prop) (t0 : List Int) (t1 : Int) (t6 : Bool) (t7 : Int) (l49 : List Int) : iter (exec C_flat_Surface Try.f76.ntmps M_ref01_insert F 0 (cL (cB (cS (cF (cS (cS (cS (bo Try.f76))))))))) (M_ref01_insert 0) (n + 1) r (st_ref01_insert_0 t0 t1 t6 t7 l49) K = g_ref01_insert_s0 (fun t0 t1 t6 t7 l49 => iter (exec C_flat_Surface Try.f76.ntmps M_ref01_insert F 0 (cL (cB (cS (cF (cS (cS (cS (bo Try.f76))))))))) (M_ref01_insert 0) n (r + 1) (st_ref01_insert_0 t0 t1 t6 t7 l49) K) (fun t0 t1 t4 t6 t7 l49 => K .ret (st_ref01_insert_0_0 t0 t1 t4 t6 t7 l49)) (fun t0 t1 t6 t7 l49 => K (.exit 0) (st_ref01_insert_0 t0 t1 t6 t7 l49)) t0 t1 t6 t7 l49 := by kernel_rfl
set_option maxRecDepth 100000 in
theorem cont_ref01_insert_0_0 (F : Nat) (Post : AVal UU → Prop) (t0 : List Int) (t1 : Int) (t4 : List Int) (t6 : Bool) (t7 : Int) (l49 : List Int) : k_ref01_insert_0 F Post .ret (st_ref01_insert_0_0 t0 t1 t4 t6 t7 l49) = g_ref01_insert_c0_0 (fun r0 => Post (.sl .int r0)) t0 t1 t4 t6 t7 l49 := by kernel_rfl
set_option maxRecDepth 100000 in
theorem cont_ref01_insert_0_1 (F : Nat) (Post : AVal UU → Prop) (t0 : List Int) (t1 : Int) (t6 : Bool) (t7 : Int) (l49 : List Int) : k_ref01_insert_0 F Post (.exit 0) (st_ref01_insert_0 t0 t1 t6 t7 l49) = g_ref01_insert_c0_1 (fun r0 => Post (.sl .int r0)) t0 t1 t6 t7 l49 := by kernel_rfl
set_option maxRecDepth 100000 in
theorem entry_ref01_insert (F : Nat) (Post : AVal UU → Prop) (a0 : List Int) (a1 : Int) : exec C_flat_Surface Try.f76.ntmps M_ref01_insert F 0 (bo Try.f76) (initSt [.sl .int a0, .int .i64 a1]) (AEnds C_flat_Surface false Try.f76 Post) = g_ref01_insert_e a0 a1 (fun r0 => Post (.sl .int r0)) (fun t0 t1 t6 t7 l49 => iter (exec C_flat_Surface Try.f76.ntmps M_ref01_insert F 0 (cL (cB (cS (cF (cS (cS (cS (bo Try.f76))))))))) (M_ref01_insert 0) F 0 (st_ref01_insert_0 t0 t1 t6 t7 l49) (k_ref01_insert_0 F Post)) := by kernel_rfl
theorem loop_ref01_insert_0 (F : Nat) (K : AEx → ASt UU → Prop) : ∀ (n r : Nat) (t0 : List Int) (t1 : Int) (t6 : Bool) (t7 : Int) (l49 : List Int), iter (exec C_flat_Surface Try.f76.ntmps M_ref01_insert F 0 (cL (cB (cS (cF (cS (cS (cS (bo Try.f76))))))))) (M_ref01_insert 0) n r (st_ref01_insert_0 t0 t1 t6 t7 l49) K = w_ref01_insert_0 F  (fun t0 t1 t4 t6 t7 l49 => K .ret (st_ref01_insert_0_0 t0 t1 t4 t6 t7 l49)) (fun t0 t1 t6 t7 l49 => K (.exit 0) (st_ref01_insert_0 t0 t1 t6 t7 l49)) n t0 t1 t6 t7 l49 := by
  intro n
  induction n with
  | zero => intros; rfl
  | succ n ih =>
    intro r t0 t1 t6 t7 l49
    have e : (fun t0 t1 t6 t7 l49 => iter (exec C_flat_Surface Try.f76.ntmps M_ref01_insert F 0 (cL (cB (cS (cF (cS (cS (cS (bo Try.f76))))))))) (M_ref01_insert 0) n (r + 1) (st_ref01_insert_0 t0 t1 t6 t7 l49) K) = w_ref01_insert_0 F  (fun t0 t1 t4 t6 t7 l49 => K .ret (st_ref01_insert_0_0 t0 t1 t4 t6 t7 l49)) (fun t0 t1 t6 t7 l49 => K (.exit 0) (st_ref01_insert_0 t0 t1 t6 t7 l49)) n := by
      funext t0 t1 t6 t7 l49
      exact ih (r + 1) t0 t1 t6 t7 l49
    rw [step_ref01_insert_0, e]
    rfl
theorem nl_ref01_insert_0 (F : Nat) (Post : AVal UU → Prop) (t0 : List Int) (t1 : Int) (t6 : Bool) (t7 : Int) (l49 : List Int) : iter (exec C_flat_Surface Try.f76.ntmps M_ref01_insert F 0 (cL (cB (cS (cF (cS (cS (cS (bo Try.f76))))))))) (M_ref01_insert 0) F 0 (st_ref01_insert_0 t0 t1 t6 t7 l49) (k_ref01_insert_0 F Post) = n_ref01_insert_0 F (fun r0 => Post (.sl .int r0)) t0 t1 t6 t7 l49 := by
  rw [loop_ref01_insert_0]
  have h0 : (fun t0 t1 t4 t6 t7 l49 => k_ref01_insert_0 F Post .ret (st_ref01_insert_0_0 t0 t1 t4 t6 t7 l49)) = (fun t0 t1 t4 t6 t7 l49 => g_ref01_insert_c0_0 (fun r0 => Post (.sl .int r0)) t0 t1 t4 t6 t7 l49) := by
    funext t0 t1 t4 t6 t7 l49
    rw [cont_ref01_insert_0_0]
  have h1 : (fun t0 t1 t6 t7 l49 => k_ref01_insert_0 F Post (.exit 0) (st_ref01_insert_0 t0 t1 t6 t7 l49)) = (fun t0 t1 t6 t7 l49 => g_ref01_insert_c0_1 (fun r0 => Post (.sl .int r0)) t0 t1 t6 t7 l49) := by
    funext t0 t1 t6 t7 l49
    rw [cont_ref01_insert_0_1]
  rw [h0, h1]
  rfl
theorem exec_ref01_insert (F : Nat) (Post : AVal UU → Prop) (a0 : List Int) (a1 : Int) : exec C_flat_Surface Try.f76.ntmps M_ref01_insert F 0 (bo Try.f76) (initSt [.sl .int a0, .int .i64 a1]) (AEnds C_flat_Surface false Try.f76 Post) = w_ref01_insert F a0 a1 (fun r0 => Post (.sl .int r0)) := by
  rw [entry_ref01_insert]
  have e0 : (fun t0 t1 t6 t7 l49 => iter (exec C_flat_Surface Try.f76.ntmps M_ref01_insert F 0 (cL (cB (cS (cF (cS (cS (cS (bo Try.f76))))))))) (M_ref01_insert 0) F 0 (st_ref01_insert_0 t0 t1 t6 t7 l49) (k_ref01_insert_0 F Post)) = (n_ref01_insert_0 F (fun r0 => Post (.sl .int r0))) := by
    funext t0 t1 t6 t7 l49
    exact nl_ref01_insert_0 F Post t0 t1 t6 t7 l49
  rw [e0]
  rfl
def m_ref01_insert : Model UU
  | [.sl .int a0, .int .i64 a1] => some ([pre_ref01_insert a0 a1], .sl .int (sp_ref01_insert a0 a1))
  | _ => none
def C_ref01_insert : Cfg UU := C_flat_Surface.add 76 m_ref01_insert
theorem s_ref01_insert : SumOK C_ref01_insert := by
  refine s_flat_Surface.addD mixed (fn := Try.f76) (c := bo Try.f76) Try.func76 (by kernel_rfl) (by kernel_rfl) ?_
  intro xs cs r h hc
  unfold m_ref01_insert at h
  split at h
  · rename_i a0 a1
    cases h
    obtain ⟨F, hF⟩ := ok_ref01_insert a0 a1 hc
    refine ⟨by kernel_rfl, M_ref01_insert, F, false, ⟨?_⟩⟩
    rw [exec_ref01_insert]
    refine hF _ ?_
    rfl
  · cases h
def k_ref01_covers_0 (F : Nat) (Post : AVal UU → Prop) : AEx → ASt UU → Prop := kBlock 0 (kSeq C_ref01_insert Try.f77.ntmps M_ref01_covers F 0 (cS (cS (bo Try.f77))) (AEnds C_ref01_insert false Try.f77 Post))
set_option maxRecDepth 100000 in
theorem step_ref01_covers_0 (F n r : Nat) (K : AEx → ASt UU → Prop) (t0 : List Rect) (t1 : Int) (t2 : Int) (t6 : Bool) (t7 : Int) : iter (exec C_ref01_insert Try.f77.ntmps M_ref01_covers F 0 (cL (cB (cS (cF (cS (bo Try.f77))))))) (M_ref01_covers 0) (n + 1) r (st_ref01_covers_0 t0 t1 t2 t6 t7) K = g_ref01_covers_s0 (fun t0 t1 t2 t6 t7 => iter (exec C_ref01_insert Try.f77.ntmps M_ref01_covers F 0 (cL (cB (cS (cF (cS (bo Try.f77))))))) (M_ref01_covers 0) n (r + 1) (st_ref01_covers_0 t0 t1 t2 t6 t7) K) (fun t0 t1 t2 t6 t7 => K .ret (st_ref01_covers_0 t0 t1 t2 t6 t7)) (fun t0 t1 t2 t6 t7 => K (.exit 0) (st_ref01_covers_0 t0 t1 t2 t6 t7)) t0 t1 t2 t6 t7 := by kernel_rfl
set_option maxRecDepth 100000 in
theorem cont_ref01_covers_0_0 (F : Nat) (Post : AVal UU → Prop) (t0 : List Rect) (t1 : Int) (t2 : Int) (t6 : Bool) (t7 : Int) : k_ref01_covers_0 F Post .ret (st_ref01_covers_0 t0 t1 t2 t6 t7) = g_ref01_covers_c0_0 (fun r0 => Post (.bool r0)) t0 t1 t2 t6 t7 := by kernel_rfl
set_option maxRecDepth 100000 in
theorem cont_ref01_covers_0_1 (F : Nat) (Post : AVal UU → Prop) (t0 : List Rect) (t1 : Int) (t2 : Int) (t6 : Bool) (t7 : Int) : k_ref01_covers_0 F Post (.exit 0) (st_ref01_covers_0 t0 t1 t2 t6 t7) = g_ref01_covers_c0_1 (fun r0 => Post (.bool r0)) t0 t1 t2 t6 t7 := by kernel_rfl
set_option maxRecDepth 100000 in
theorem entry_ref01_covers (F : Nat) (Post : AVal UU → Prop) (a0 : List Rect) (a1 : Int) (a2 : Int) : exec C_ref01_insert Try.f77.ntmps M_ref01_covers F 0 (bo Try.f77) (initSt [.sl .rect a0, .int .i64 a1, .int .i64 a2]) (AEnds C_ref01_insert false Try.f77 Post) = g_ref01_covers_e a0 a1 a2 (fun r0 => Post (.bool r0)) (fun t0 t1 t2 t6 t7 => iter (exec C_ref01_insert Try.f77.ntmps M_ref01_covers F 0 (cL (cB (cS (cF (cS (bo Try.f77))))))) (M_ref01_covers 0) F 0 (st_ref01_covers_0 t0 t1 t2 t6 t7) (k_ref01_covers_0 F Post)) := by kernel_rfl
theorem loop_ref01_covers_0 (F : Nat) (K : AEx → ASt UU → Prop) : ∀ (n r : Nat) (t0 : List Rect) (t1 : Int) (t2 : Int) (t6 : Bool) (t7 : Int), iter (exec C_ref01_insert Try.f77.ntmps M_ref01_covers F 0 (cL (cB (cS (cF (cS (bo Try.f77))))))) (M_ref01_covers 0) n r (st_ref01_covers_0 t0 t1 t2 t6 t7) K = w_ref01_covers_0 F  (fun t0 t1 t2 t6 t7 => K .ret (st_ref01_covers_0 t0 t1 t2 t6 t7)) (fun t0 t1 t2 t6 t7 => K (.exit 0) (st_ref01_covers_0 t0 t1 t2 t6 t7)) n t0 t1 t2 t6 t7 := by
  intro n
  induction n with
  | zero => intros; rfl
  | succ n ih =>
    intro r t0 t1 t2 t6 t7
    have e : (fun t0 t1 t2 t6 t7 => iter (exec C_ref01_insert Try.f77.ntmps M_ref01_covers F 0 (cL (cB (cS (cF (cS (bo Try.f77))))))) (M_ref01_covers 0) n (r + 1) (st_ref01_covers_0 t0 t1 t2 t6 t7) K) = w_ref01_covers_0 F  (fun t0 t1 t2 t6 t7 => K .ret (st_ref01_covers_0 t0 t1 t2 t6 t7)) (fun t0 t1 t2 t6 t7 => K (.exit 0) (st_ref01_covers_0 t0 t1 t2 t6 t7)) n := by
      funext t0 t1 t2 t6 t7
      exact ih (r + 1) t0 t1 t2 t6 t7
    rw [step_ref01_covers_0, e]
    rfl
theorem nl_ref01_covers_0 (F : Nat) (Post : AVal UU → Prop) (t0 : List Rect) (t1 : Int) (t2 : Int) (t6 : Bool) (t7 : Int) : iter (exec C_ref01_insert Try.f77.ntmps M_ref01_covers F 0 (cL (cB (cS (cF (cS (bo Try.f77))))))) (M_ref01_covers 0) F 0 (st_ref01_covers_0 t0 t1 t2 t6 t7) (k_ref01_covers_0 F Post) = n_ref01_covers_0 F (fun r0 => Post (.bool r0)) t0 t1 t2 t6 t7 := by
  rw [loop_ref01_covers_0]
  have h0 : (fun t0 t1 t2 t6 t7 => k_ref01_covers_0 F Post .ret (st_ref01_covers_0 t0 t1 t2 t6 t7)) = (fun t0 t1 t2 t6 t7 => g_ref01_covers_c0_0 (fun r0 => Post (.bool r0)) t0 t1 t2 t6 t7) := by
    funext t0 t1 t2 t6 t7
    rw [cont_ref01_covers_0_0]
  have h1 : (fun t0 t1 t2 t6 t7 => k_ref01_covers_0 F Post (.exit 0) (st_ref01_covers_0 t0 t1 t2 t6 t7)) = (fun t0 t1 t2 t6 t7 => g_ref01_covers_c0_1 (fun r0 => Post (.bool r0)) t0 t1 t2 t6 t7) := by
    funext t0 t1 t2 t6 t7
    rw [cont_ref01_covers_0_1]
  rw [h0, h1]
  rfl
theorem exec_ref01_covers (F : Nat) (Post : AVal UU → Prop) (a0 : List Rect) (a1 : Int) (a2 : Int) : exec C_ref01_insert Try.f77.ntmps M_ref01_covers F 0 (bo Try.f77) (initSt [.sl .rect a0, .int .i64 a1, .int .i64 a2]) (AEnds C_ref01_insert false Try.f77 Post) = w_ref01_covers F a0 a1 a2 (fun r0 => Post (.bool r0)) := by
  rw [entry_ref01_covers]
  have e0 : (fun t0 t1 t2 t6 t7 => iter (exec C_ref01_insert Try.f77.ntmps M_ref01_covers F 0 (cL (cB (cS (cF (cS (bo Try.f77))))))) (M_ref01_covers 0) F 0 (st_ref01_covers_0 t0 t1 t2 t6 t7) (k_ref01_covers_0 F Post)) = (n_ref01_covers_0 F (fun r0 => Post (.bool r0))) := by
    funext t0 t1 t2 t6 t7
    exact nl_ref01_covers_0 F Post t0 t1 t2 t6 t7
  rw [e0]
  rfl
def m_ref01_covers : Model UU
  | [.sl .rect a0, .int .i64 a1, .int .i64 a2] => some ([pre_ref01_covers a0 a1 a2], .bool (sp_ref01_covers a0 a1 a2))
  | _ => none
def C_ref01_covers : Cfg UU := C_ref01_insert.add 77 m_ref01_covers
theorem s_ref01_covers : SumOK C_ref01_covers := by
  refine s_ref01_insert.addD mixed (fn := Try.f77) (c := bo Try.f77) Try.func77 (by kernel_rfl) (by kernel_rfl) ?_
  intro xs cs r h hc
  unfold m_ref01_covers at h
  split at h
  · rename_i a0 a1 a2
    cases h
    obtain ⟨F, hF⟩ := ok_ref01_covers a0 a1 a2 hc
    refine ⟨by kernel_rfl, M_ref01_covers, F, false, ⟨?_⟩⟩
    rw [exec_ref01_covers]
    refine hF _ ?_
    rfl
  · cases h
def k_ref01_Both_0 (F : Nat) (Post : AVal UU → Prop) : AEx → ASt UU → Prop := kBlock 0 (kSeq C_ref01_covers Try.f50.ntmps M_ref01_Both F 0 (cS (cS (cS (bo Try.f50)))) (AEnds C_ref01_covers false Try.f50 Post))
def k_ref01_Both_1 (F : Nat) (Post : AVal UU → Prop) : AEx → ASt UU → Prop := kBlock 2 (kSeq C_ref01_covers Try.f50.ntmps M_ref01_Both F 0 (cS (cS (cS (cS (bo Try.f50))))) (AEnds C_ref01_covers false Try.f50 Post))
set_option maxRecDepth 100000 in
theorem step_ref01_Both_0 (F n r : Nat) (K : AEx → ASt UU → Prop) (t0 : List Rect) (t1 : List Rect) (t6 : Int) (l35 : List Rect) : iter (exec C_ref01_covers Try.f50.ntmps M_ref01_Both F 0 (cL (cB (cS (cF (cS (cS (bo Try.f50)))))))) (M_ref01_Both 0) (n + 1) r (st_ref01_Both_0 t0 t1 t6 l35) K = g_ref01_Both_s0 (fun t0 t1 t6 l35 => iter (exec C_ref01_covers Try.f50.ntmps M_ref01_Both F 0 (cL (cB (cS (cF (cS (cS (bo Try.f50)))))))) (M_ref01_Both 0) n (r + 1) (st_ref01_Both_0 t0 t1 t6 l35) K) (fun t0 t1 t6 l35 => K (.exit 0) (st_ref01_Both_0 t0 t1 t6 l35)) t0 t1 t6 l35 := by kernel_rfl
set_option maxRecDepth 100000 in
theorem cont_ref01_Both_0_0 (F : Nat) (Post : AVal UU → Prop) (t0 : List Rect) (t1 : List Rect) (t6 : Int) (l35 : List Rect) : k_ref01_Both_0 F Post (.exit 0) (st_ref01_Both_0 t0 t1 t6 l35) = g_ref01_Both_c0_0 (fun r0 => Post (.sl .rect r0)) t0 t1 t6 l35 (fun t1 t7 l35 => iter (exec C_ref01_covers Try.f50.ntmps M_ref01_Both F 2 (cL (cB (cS (cF (cS (cS (cS (bo Try.f50))))))))) (M_ref01_Both 2) F 0 (st_ref01_Both_1 t1 t7 l35) (k_ref01_Both_1 F Post)) := by kernel_rfl
set_option maxRecDepth 100000 in
theorem step_ref01_Both_1 (F n r : Nat) (K : AEx → ASt UU → Prop) (t1 : List Rect) (t7 : Int) (l35 : List Rect) : iter (exec C_ref01_covers Try.f50.ntmps M_ref01_Both F 2 (cL (cB (cS (cF (cS (cS (cS (bo Try.f50))))))))) (M_ref01_Both 2) (n + 1) r (st_ref01_Both_1 t1 t7 l35) K = g_ref01_Both_s1 (fun t1 t7 l35 => iter (exec C_ref01_covers Try.f50.ntmps M_ref01_Both F 2 (cL (cB (cS (cF (cS (cS (cS (bo Try.f50))))))))) (M_ref01_Both 2) n (r + 1) (st_ref01_Both_1 t1 t7 l35) K) (fun t1 t7 l35 => K (.exit 2) (st_ref01_Both_1 t1 t7 l35)) t1 t7 l35 := by kernel_rfl
set_option maxRecDepth 100000 in
theorem cont_ref01_Both_1_0 (F : Nat) (Post : AVal UU → Prop) (t1 : List Rect) (t7 : Int) (l35 : List Rect) : k_ref01_Both_1 F Post (.exit 2) (st_ref01_Both_1 t1 t7 l35) = g_ref01_Both_c1_0 (fun r0 => Post (.sl .rect r0)) t1 t7 l35 := by kernel_rfl
set_option maxRecDepth 100000 in
theorem entry_ref01_Both (F : Nat) (Post : AVal UU → Prop) (a0 : List Rect) (a1 : List Rect) : exec C_ref01_covers Try.f50.ntmps M_ref01_Both F 0 (bo Try.f50) (initSt [.sl .rect a0, .sl .rect a1]) (AEnds C_ref01_covers false Try.f50 Post) = g_ref01_Both_e a0 a1 (fun r0 => Post (.sl .rect r0)) (fun t0 t1 t6 l35 => iter (exec C_ref01_covers Try.f50.ntmps M_ref01_Both F 0 (cL (cB (cS (cF (cS (cS (bo Try.f50)))))))) (M_ref01_Both 0) F 0 (st_ref01_Both_0 t0 t1 t6 l35) (k_ref01_Both_0 F Post)) := by kernel_rfl
theorem loop_ref01_Both_1 (F : Nat) (K : AEx → ASt UU → Prop) : ∀ (n r : Nat) (t1 : List Rect) (t7 : Int) (l35 : List Rect), iter (exec C_ref01_covers Try.f50.ntmps M_ref01_Both F 2 (cL (cB (cS (cF (cS (cS (cS (bo Try.f50))))))))) (M_ref01_Both 2) n r (st_ref01_Both_1 t1 t7 l35) K = w_ref01_Both_1 F  (fun t1 t7 l35 => K (.exit 2) (st_ref01_Both_1 t1 t7 l35)) n t1 t7 l35 := by
  intro n
  induction n with
  | zero => intros; rfl
  | succ n ih =>
    intro r t1 t7 l35
    have e : (fun t1 t7 l35 => iter (exec C_ref01_covers Try.f50.ntmps M_ref01_Both F 2 (cL (cB (cS (cF (cS (cS (cS (bo Try.f50))))))))) (M_ref01_Both 2) n (r + 1) (st_ref01_Both_1 t1 t7 l35) K) = w_ref01_Both_1 F  (fun t1 t7 l35 => K (.exit 2) (st_ref01_Both_1 t1 t7 l35)) n := by
      funext t1 t7 l35
      exact ih (r + 1) t1 t7 l35
    rw [step_ref01_Both_1, e]
    rfl
theorem nl_ref01_Both_1 (F : Nat) (Post : AVal UU → Prop) (t1 : List Rect) (t7 : Int) (l35 : List Rect) : iter (exec C_ref01_covers Try.f50.ntmps M_ref01_Both F 2 (cL (cB (cS (cF (cS (cS (cS (bo Try.f50))))))))) (M_ref01_Both 2) F 0 (st_ref01_Both_1 t1 t7 l35) (k_ref01_Both_1 F Post) = n_ref01_Both_1 F (fun r0 => Post (.sl .rect r0)) t1 t7 l35 := by
  rw [loop_ref01_Both_1]
  have h0 : (fun t1 t7 l35 => k_ref01_Both_1 F Post (.exit 2) (st_ref01_Both_1 t1 t7 l35)) = (fun t1 t7 l35 => g_ref01_Both_c1_0 (fun r0 => Post (.sl .rect r0)) t1 t7 l35) := by
    funext t1 t7 l35
    rw [cont_ref01_Both_1_0]
  rw [h0]
  rfl
theorem loop_ref01_Both_0 (F : Nat) (K : AEx → ASt UU → Prop) : ∀ (n r : Nat) (t0 : List Rect) (t1 : List Rect) (t6 : Int) (l35 : List Rect), iter (exec C_ref01_covers Try.f50.ntmps M_ref01_Both F 0 (cL (cB (cS (cF (cS (cS (bo Try.f50)))))))) (M_ref01_Both 0) n r (st_ref01_Both_0 t0 t1 t6 l35) K = w_ref01_Both_0 F  (fun t0 t1 t6 l35 => K (.exit 0) (st_ref01_Both_0 t0 t1 t6 l35)) n t0 t1 t6 l35 := by
  intro n
  induction n with
  | zero => intros; rfl
  | succ n ih =>
    intro r t0 t1 t6 l35
    have e : (fun t0 t1 t6 l35 => iter (exec C_ref01_covers Try.f50.ntmps M_ref01_Both F 0 (cL (cB (cS (cF (cS (cS (bo Try.f50)))))))) (M_ref01_Both 0) n (r + 1) (st_ref01_Both_0 t0 t1 t6 l35) K) = w_ref01_Both_0 F  (fun t0 t1 t6 l35 => K (.exit 0) (st_ref01_Both_0 t0 t1 t6 l35)) n := by
      funext t0 t1 t6 l35
      exact ih (r + 1) t0 t1 t6 l35
    rw [step_ref01_Both_0, e]
    rfl
theorem nl_ref01_Both_0 (F : Nat) (Post : AVal UU → Prop) (t0 : List Rect) (t1 : List Rect) (t6 : Int) (l35 : List Rect) : iter (exec C_ref01_covers Try.f50.ntmps M_ref01_Both F 0 (cL (cB (cS (cF (cS (cS (bo Try.f50)))))))) (M_ref01_Both 0) F 0 (st_ref01_Both_0 t0 t1 t6 l35) (k_ref01_Both_0 F Post) = n_ref01_Both_0 F (fun r0 => Post (.sl .rect r0)) t0 t1 t6 l35 := by
  rw [loop_ref01_Both_0]
  have e1 : (fun t1 t7 l35 => iter (exec C_ref01_covers Try.f50.ntmps M_ref01_Both F 2 (cL (cB (cS (cF (cS (cS (cS (bo Try.f50))))))))) (M_ref01_Both 2) F 0 (st_ref01_Both_1 t1 t7 l35) (k_ref01_Both_1 F Post)) = (n_ref01_Both_1 F (fun r0 => Post (.sl .rect r0))) := by
    funext t1 t7 l35
    exact nl_ref01_Both_1 F Post t1 t7 l35
  have h0 : (fun t0 t1 t6 l35 => k_ref01_Both_0 F Post (.exit 0) (st_ref01_Both_0 t0 t1 t6 l35)) = (fun t0 t1 t6 l35 => g_ref01_Both_c0_0 (fun r0 => Post (.sl .rect r0)) t0 t1 t6 l35 (n_ref01_Both_1 F (fun r0 => Post (.sl .rect r0)))) := by
    funext t0 t1 t6 l35
    rw [cont_ref01_Both_0_0, e1]
  rw [h0]
  rfl
theorem exec_ref01_Both (F : Nat) (Post : AVal UU → Prop) (a0 : List Rect) (a1 : List Rect) : exec C_ref01_covers Try.f50.ntmps M_ref01_Both F 0 (bo Try.f50) (initSt [.sl .rect a0, .sl .rect a1]) (AEnds C_ref01_covers false Try.f50 Post) = w_ref01_Both F a0 a1 (fun r0 => Post (.sl .rect r0)) := by
  rw [entry_ref01_Both]
  have e0 : (fun t0 t1 t6 l35 => iter (exec C_ref01_covers Try.f50.ntmps M_ref01_Both F 0 (cL (cB (cS (cF (cS (cS (bo Try.f50)))))))) (M_ref01_Both 0) F 0 (st_ref01_Both_0 t0 t1 t6 l35) (k_ref01_Both_0 F Post)) = (n_ref01_Both_0 F (fun r0 => Post (.sl .rect r0))) := by
    funext t0 t1 t6 l35
    exact nl_ref01_Both_0 F Post t0 t1 t6 l35
  rw [e0]
  rfl
def m_ref01_Both : Model UU
  | [.sl .rect a0, .sl .rect a1] => some ([pre_ref01_Both a0 a1], .sl .rect (sp_ref01_Both a0 a1))
  | _ => none
def C_ref01_Both : Cfg UU := C_ref01_covers.add 50 m_ref01_Both
theorem s_ref01_Both : SumOK C_ref01_Both := by
  refine s_ref01_covers.addD mixed (fn := Try.f50) (c := bo Try.f50) Try.func50 (by kernel_rfl) (by kernel_rfl) ?_
  intro xs cs r h hc
  unfold m_ref01_Both at h
  split at h
  · rename_i a0 a1
    cases h
    obtain ⟨F, hF⟩ := ok_ref01_Both a0 a1 hc
    refine ⟨by kernel_rfl, M_ref01_Both, F, false, ⟨?_⟩⟩
    rw [exec_ref01_Both]
    refine hF _ ?_
    rfl
  · cases h
end
end Go.Proofs.Ytohecfbnmmgimaa

namespace Go.Proofs.Ytohecfbnmmgimaa
open Go.Vm Go.RowKit
set_option linter.unusedVariables false
noncomputable section
def k_ref01_MakeGrid_0 (F : Nat) (Post : AVal UU → Prop) : AEx → ASt UU → Prop := kBlock 0 (kSeq C_ref01_Both.asDeep Try.f51.ntmps M_ref01_MakeGrid F 0 (cS (cS (cS (bo Try.f51)))) (AEnds C_ref01_Both.asDeep true Try.f51 Post))
def k_ref01_MakeGrid_1 (F : Nat) (Post : AVal UU → Prop) : AEx → ASt UU → Prop := kBlock 2 (kSeq C_ref01_Both.asDeep Try.f51.ntmps M_ref01_MakeGrid F 0 (cS (cS (cS (cS (bo Try.f51))))) (AEnds C_ref01_Both.asDeep true Try.f51 Post))
def k_ref01_MakeGrid_2 (F n r : Nat) (K : AEx → ASt UU → Prop) : AEx → ASt UU → Prop := kBlock 4 (kSeq C_ref01_Both.asDeep Try.f51.ntmps M_ref01_MakeGrid F 3 (cS (cS (cB (cF (cS (cL (cB (cS (cF (cS (cS (cS (bo Try.f51))))))))))))) (kBlock 3 (kSeq C_ref01_Both.asDeep Try.f51.ntmps M_ref01_MakeGrid F 2 (cS (cS (cL (cB (cS (cF (cS (cS (cS (bo Try.f51)))))))))) (kIter (exec C_ref01_Both.asDeep Try.f51.ntmps M_ref01_MakeGrid F 2 (cL (cB (cS (cF (cS (cS (cS (bo Try.f51))))))))) (M_ref01_MakeGrid 2) n r K))))
set_option maxRecDepth 100000 in
theorem step_ref01_MakeGrid_0 (F n r : Nat) (K : AEx → ASt UU → Prop) (t0 : List Rect) (t1 : List Rect) (t6 : Int) (c5_0 : List Int) (c5_1 : List Int) : iter (exec C_ref01_Both.asDeep Try.f51.ntmps M_ref01_MakeGrid F 0 (cL (cB (cS (cF (cS (cS (bo Try.f51)))))))) (M_ref01_MakeGrid 0) (n + 1) r (st_ref01_MakeGrid_0 t0 t1 t6 c5_0 c5_1) K = g_ref01_MakeGrid_s0 (fun t0 t1 t6 c5_0 c5_1 => iter (exec C_ref01_Both.asDeep Try.f51.ntmps M_ref01_MakeGrid F 0 (cL (cB (cS (cF (cS (cS (bo Try.f51)))))))) (M_ref01_MakeGrid 0) n (r + 1) (st_ref01_MakeGrid_0 t0 t1 t6 c5_0 c5_1) K) (fun t0 t1 t6 c5_0 c5_1 => K (.exit 0) (st_ref01_MakeGrid_0 t0 t1 t6 c5_0 c5_1)) t0 t1 t6 c5_0 c5_1 := by kernel_rfl
set_option maxRecDepth 100000 in
theorem cont_ref01_MakeGrid_0_0 (F : Nat) (Post : AVal UU → Prop) (t0 : List Rect) (t1 : List Rect) (t6 : Int) (c5_0 : List Int) (c5_1 : List Int) : k_ref01_MakeGrid_0 F Post (.exit 0) (st_ref01_MakeGrid_0 t0 t1 t6 c5_0 c5_1) = g_ref01_MakeGrid_c0_0 (fun r0_X r0_Y r0_On => Post (.agg [.sl .int r0_X, .sl .int r0_Y, .newd .bools r0_On])) t0 t1 t6 c5_0 c5_1 (fun t1 t7 c5_0 c5_1 l96 => iter (exec C_ref01_Both.asDeep Try.f51.ntmps M_ref01_MakeGrid F 2 (cL (cB (cS (cF (cS (cS (cS (bo Try.f51))))))))) (M_ref01_MakeGrid 2) F 0 (st_ref01_MakeGrid_1 t1 t7 c5_0 c5_1 l96) (k_ref01_MakeGrid_1 F Post)) := by kernel_rfl
set_option maxRecDepth 100000 in
theorem step_ref01_MakeGrid_1 (F n r : Nat) (K : AEx → ASt UU → Prop) (t1 : List Rect) (t7 : Int) (c5_0 : List Int) (c5_1 : List Int) (l96 : List (List Bool)) : iter (exec C_ref01_Both.asDeep Try.f51.ntmps M_ref01_MakeGrid F 2 (cL (cB (cS (cF (cS (cS (cS (bo Try.f51))))))))) (M_ref01_MakeGrid 2) (n + 1) r (st_ref01_MakeGrid_1 t1 t7 c5_0 c5_1 l96) K = g_ref01_MakeGrid_s1 (fun t1 t7 c5_0 c5_1 l96 => iter (exec C_ref01_Both.asDeep Try.f51.ntmps M_ref01_MakeGrid F 2 (cL (cB (cS (cF (cS (cS (cS (bo Try.f51))))))))) (M_ref01_MakeGrid 2) n (r + 1) (st_ref01_MakeGrid_1 t1 t7 c5_0 c5_1 l96) K) (fun t1 t7 c5_0 c5_1 l96 => K (.exit 2) (st_ref01_MakeGrid_1 t1 t7 c5_0 c5_1 l96)) t1 t7 c5_0 c5_1 l96 (fun t1 t7 t9 c5_0 c5_1 l96 l97 => iter (exec C_ref01_Both.asDeep Try.f51.ntmps M_ref01_MakeGrid F 4 (cL (cB (cS (cF (cS (cB (cF (cS (cL (cB (cS (cF (cS (cS (cS (bo Try.f51))))))))))))))))) (M_ref01_MakeGrid 4) F 0 (st_ref01_MakeGrid_2 t1 t7 t9 c5_0 c5_1 l96 l97) (k_ref01_MakeGrid_2 F n r K)) := by kernel_rfl
set_option maxRecDepth 100000 in
theorem cont_ref01_MakeGrid_1_0 (F : Nat) (Post : AVal UU → Prop) (t1 : List Rect) (t7 : Int) (c5_0 : List Int) (c5_1 : List Int) (l96 : List (List Bool)) : k_ref01_MakeGrid_1 F Post (.exit 2) (st_ref01_MakeGrid_1 t1 t7 c5_0 c5_1 l96) = g_ref01_MakeGrid_c1_0 (fun r0_X r0_Y r0_On => Post (.agg [.sl .int r0_X, .sl .int r0_Y, .newd .bools r0_On])) t1 t7 c5_0 c5_1 l96 := by kernel_rfl
set_option maxRecDepth 100000 in
theorem step_ref01_MakeGrid_2 (F n r : Nat) (K : AEx → ASt UU → Prop) (t1 : List Rect) (t7 : Int) (t9 : Int) (c5_0 : List Int) (c5_1 : List Int) (l96 : List Bool) (l97 : List (List Bool)) : iter (exec C_ref01_Both.asDeep Try.f51.ntmps M_ref01_MakeGrid F 4 (cL (cB (cS (cF (cS (cB (cF (cS (cL (cB (cS (cF (cS (cS (cS (bo Try.f51))))))))))))))))) (M_ref01_MakeGrid 4) (n + 1) r (st_ref01_MakeGrid_2 t1 t7 t9 c5_0 c5_1 l96 l97) K = g_ref01_MakeGrid_s2 (fun t1 t7 t9 c5_0 c5_1 l96 l97 => iter (exec C_ref01_Both.asDeep Try.f51.ntmps M_ref01_MakeGrid F 4 (cL (cB (cS (cF (cS (cB (cF (cS (cL (cB (cS (cF (cS (cS (cS (bo Try.f51))))))))))))))))) (M_ref01_MakeGrid 4) n (r + 1) (st_ref01_MakeGrid_2 t1 t7 t9 c5_0 c5_1 l96 l97) K) (fun t1 t7 t9 c5_0 c5_1 l96 l97 => K (.exit 4) (st_ref01_MakeGrid_2 t1 t7 t9 c5_0 c5_1 l96 l97)) t1 t7 t9 c5_0 c5_1 l96 l97 := by kernel_rfl
set_option maxRecDepth 100000 in
theorem cont_ref01_MakeGrid_2_0 (F n r : Nat) (K : AEx → ASt UU → Prop) (t1 : List Rect) (t7 : Int) (t9 : Int) (c5_0 : List Int) (c5_1 : List Int) (l96 : List Bool) (l97 : List (List Bool)) : k_ref01_MakeGrid_2 F n r K (.exit 4) (st_ref01_MakeGrid_2 t1 t7 t9 c5_0 c5_1 l96 l97) = g_ref01_MakeGrid_c2_0 (fun t1 t7 c5_0 c5_1 l96 => iter (exec C_ref01_Both.asDeep Try.f51.ntmps M_ref01_MakeGrid F 2 (cL (cB (cS (cF (cS (cS (cS (bo Try.f51))))))))) (M_ref01_MakeGrid 2) n (r + 1) (st_ref01_MakeGrid_1 t1 t7 c5_0 c5_1 l96) K) (fun t1 t7 c5_0 c5_1 l96 => K (.exit 2) (st_ref01_MakeGrid_1 t1 t7 c5_0 c5_1 l96)) t1 t7 t9 c5_0 c5_1 l96 l97 := by kernel_rfl
set_option maxRecDepth 100000 in
theorem entry_ref01_MakeGrid (F : Nat) (Post : AVal UU → Prop) (a0 : List Rect) (a1 : List Rect) : exec C_ref01_Both.asDeep Try.f51.ntmps M_ref01_MakeGrid F 0 (bo Try.f51) (initSt [.sl .rect a0, .sl .rect a1]) (AEnds C_ref01_Both.asDeep true Try.f51 Post) = g_ref01_MakeGrid_e a0 a1 (fun r0_X r0_Y r0_On => Post (.agg [.sl .int r0_X, .sl .int r0_Y, .newd .bools r0_On])) (fun t0 t1 t6 c5_0 c5_1 => iter (exec C_ref01_Both.asDeep Try.f51.ntmps M_ref01_MakeGrid F 0 (cL (cB (cS (cF (cS (cS (bo Try.f51)))))))) (M_ref01_MakeGrid 0) F 0 (st_ref01_MakeGrid_0 t0 t1 t6 c5_0 c5_1) (k_ref01_MakeGrid_0 F Post)) := by kernel_rfl
theorem loop_ref01_MakeGrid_2 (F : Nat) (K : AEx → ASt UU → Prop) : ∀ (n r : Nat) (t1 : List Rect) (t7 : Int) (t9 : Int) (c5_0 : List Int) (c5_1 : List Int) (l96 : List Bool) (l97 : List (List Bool)), iter (exec C_ref01_Both.asDeep Try.f51.ntmps M_ref01_MakeGrid F 4 (cL (cB (cS (cF (cS (cB (cF (cS (cL (cB (cS (cF (cS (cS (cS (bo Try.f51))))))))))))))))) (M_ref01_MakeGrid 4) n r (st_ref01_MakeGrid_2 t1 t7 t9 c5_0 c5_1 l96 l97) K = w_ref01_MakeGrid_2 F  (fun t1 t7 t9 c5_0 c5_1 l96 l97 => K (.exit 4) (st_ref01_MakeGrid_2 t1 t7 t9 c5_0 c5_1 l96 l97)) n t1 t7 t9 c5_0 c5_1 l96 l97 := by
  intro n
  induction n with
  | zero => intros; rfl
  | succ n ih =>
    intro r t1 t7 t9 c5_0 c5_1 l96 l97
    have e : (fun t1 t7 t9 c5_0 c5_1 l96 l97 => iter (exec C_ref01_Both.asDeep Try.f51.ntmps M_ref01_MakeGrid F 4 (cL (cB (cS (cF (cS (cB (cF (cS (cL (cB (cS (cF (cS (cS (cS (bo Try.f51))))))))))))))))) (M_ref01_MakeGrid 4) n (r + 1) (st_ref01_MakeGrid_2 t1 t7 t9 c5_0 c5_1 l96 l97) K) = w_ref01_MakeGrid_2 F  (fun t1 t7 t9 c5_0 c5_1 l96 l97 => K (.exit 4) (st_ref01_MakeGrid_2 t1 t7 t9 c5_0 c5_1 l96 l97)) n := by
      funext t1 t7 t9 c5_0 c5_1 l96 l97
      exact ih (r + 1) t1 t7 t9 c5_0 c5_1 l96 l97
    rw [step_ref01_MakeGrid_2, e]
    rfl
theorem nl_ref01_MakeGrid_2 (F n r : Nat) (K : AEx → ASt UU → Prop) (t1 : List Rect) (t7 : Int) (t9 : Int) (c5_0 : List Int) (c5_1 : List Int) (l96 : List Bool) (l97 : List (List Bool)) : iter (exec C_ref01_Both.asDeep Try.f51.ntmps M_ref01_MakeGrid F 4 (cL (cB (cS (cF (cS (cB (cF (cS (cL (cB (cS (cF (cS (cS (cS (bo Try.f51))))))))))))))))) (M_ref01_MakeGrid 4) F 0 (st_ref01_MakeGrid_2 t1 t7 t9 c5_0 c5_1 l96 l97) (k_ref01_MakeGrid_2 F n r K) = n_ref01_MakeGrid_2 F (fun t1 t7 c5_0 c5_1 l96 => iter (exec C_ref01_Both.asDeep Try.f51.ntmps M_ref01_MakeGrid F 2 (cL (cB (cS (cF (cS (cS (cS (bo Try.f51))))))))) (M_ref01_MakeGrid 2) n (r + 1) (st_ref01_MakeGrid_1 t1 t7 c5_0 c5_1 l96) K) (fun t1 t7 c5_0 c5_1 l96 => K (.exit 2) (st_ref01_MakeGrid_1 t1 t7 c5_0 c5_1 l96)) t1 t7 t9 c5_0 c5_1 l96 l97 := by
  rw [loop_ref01_MakeGrid_2]
  have h0 : (fun t1 t7 t9 c5_0 c5_1 l96 l97 => k_ref01_MakeGrid_2 F n r K (.exit 4) (st_ref01_MakeGrid_2 t1 t7 t9 c5_0 c5_1 l96 l97)) = (fun t1 t7 t9 c5_0 c5_1 l96 l97 => g_ref01_MakeGrid_c2_0 (fun t1 t7 c5_0 c5_1 l96 => iter (exec C_ref01_Both.asDeep Try.f51.ntmps M_ref01_MakeGrid F 2 (cL (cB (cS (cF (cS (cS (cS (bo Try.f51))))))))) (M_ref01_MakeGrid 2) n (r + 1) (st_ref01_MakeGrid_1 t1 t7 c5_0 c5_1 l96) K) (fun t1 t7 c5_0 c5_1 l96 => K (.exit 2) (st_ref01_MakeGrid_1 t1 t7 c5_0 c5_1 l96)) t1 t7 t9 c5_0 c5_1 l96 l97) := by
    funext t1 t7 t9 c5_0 c5_1 l96 l97
    rw [cont_ref01_MakeGrid_2_0]
  rw [h0]
  rfl
theorem loop_ref01_MakeGrid_1 (F : Nat) (K : AEx → ASt UU → Prop) : ∀ (n r : Nat) (t1 : List Rect) (t7 : Int) (c5_0 : List Int) (c5_1 : List Int) (l96 : List (List Bool)), iter (exec C_ref01_Both.asDeep Try.f51.ntmps M_ref01_MakeGrid F 2 (cL (cB (cS (cF (cS (cS (cS (bo Try.f51))))))))) (M_ref01_MakeGrid 2) n r (st_ref01_MakeGrid_1 t1 t7 c5_0 c5_1 l96) K = w_ref01_MakeGrid_1 F  (fun t1 t7 c5_0 c5_1 l96 => K (.exit 2) (st_ref01_MakeGrid_1 t1 t7 c5_0 c5_1 l96)) n t1 t7 c5_0 c5_1 l96 := by
  intro n
  induction n with
  | zero => intros; rfl
  | succ n ih =>
    intro r t1 t7 c5_0 c5_1 l96
    have e : (fun t1 t7 c5_0 c5_1 l96 => iter (exec C_ref01_Both.asDeep Try.f51.ntmps M_ref01_MakeGrid F 2 (cL (cB (cS (cF (cS (cS (cS (bo Try.f51))))))))) (M_ref01_MakeGrid 2) n (r + 1) (st_ref01_MakeGrid_1 t1 t7 c5_0 c5_1 l96) K) = w_ref01_MakeGrid_1 F  (fun t1 t7 c5_0 c5_1 l96 => K (.exit 2) (st_ref01_MakeGrid_1 t1 t7 c5_0 c5_1 l96)) n := by
      funext t1 t7 c5_0 c5_1 l96
      exact ih (r + 1) t1 t7 c5_0 c5_1 l96
    have e2 : (fun t1 t7 t9 c5_0 c5_1 l96 l97 => iter (exec C_ref01_Both.asDeep Try.f51.ntmps M_ref01_MakeGrid F 4 (cL (cB (cS (cF (cS (cB (cF (cS (cL (cB (cS (cF (cS (cS (cS (bo Try.f51))))))))))))))))) (M_ref01_MakeGrid 4) F 0 (st_ref01_MakeGrid_2 t1 t7 t9 c5_0 c5_1 l96 l97) (k_ref01_MakeGrid_2 F n r K)) = (n_ref01_MakeGrid_2 F (fun t1 t7 c5_0 c5_1 l96 => iter (exec C_ref01_Both.asDeep Try.f51.ntmps M_ref01_MakeGrid F 2 (cL (cB (cS (cF (cS (cS (cS (bo Try.f51))))))))) (M_ref01_MakeGrid 2) n (r + 1) (st_ref01_MakeGrid_1 t1 t7 c5_0 c5_1 l96) K) (fun t1 t7 c5_0 c5_1 l96 => K (.exit 2) (st_ref01_MakeGrid_1 t1 t7 c5_0 c5_1 l96))) := by
      funext t1 t7 t9 c5_0 c5_1 l96 l97
      exact nl_ref01_MakeGrid_2 F n r K t1 t7 t9 c5_0 c5_1 l96 l97
    rw [step_ref01_MakeGrid_1, e2, e]
    rfl
theorem nl_ref01_MakeGrid_1 (F : Nat) (Post : AVal UU → Prop) (t1 : List Rect) (t7 : Int) (c5_0 : List Int) (c5_1 : List Int) (l96 : List (List Bool)) : iter (exec C_ref01_Both.asDeep Try.f51.ntmps M_ref01_MakeGrid F 2 (cL (cB (cS (cF (cS (cS (cS (bo Try.f51))))))))) (M_ref01_MakeGrid 2) F 0 (st_ref01_MakeGrid_1 t1 t7 c5_0 c5_1 l96) (k_ref01_MakeGrid_1 F Post) = n_ref01_MakeGrid_1 F (fun r0_X r0_Y r0_On => Post (.agg [.sl .int r0_X, .sl .int r0_Y, .newd .bools r0_On])) t1 t7 c5_0 c5_1 l96 := by
  rw [loop_ref01_MakeGrid_1]
  have h0 : (fun t1 t7 c5_0 c5_1 l96 => k_ref01_MakeGrid_1 F Post (.exit 2) (st_ref01_MakeGrid_1 t1 t7 c5_0 c5_1 l96)) = (fun t1 t7 c5_0 c5_1 l96 => g_ref01_MakeGrid_c1_0 (fun r0_X r0_Y r0_On => Post (.agg [.sl .int r0_X, .sl .int r0_Y, .newd .bools r0_On])) t1 t7 c5_0 c5_1 l96) := by
    funext t1 t7 c5_0 c5_1 l96
    rw [cont_ref01_MakeGrid_1_0]
  rw [h0]
  rfl
theorem loop_ref01_MakeGrid_0 (F : Nat) (K : AEx → ASt UU → Prop) : ∀ (n r : Nat) (t0 : List Rect) (t1 : List Rect) (t6 : Int) (c5_0 : List Int) (c5_1 : List Int), iter (exec C_ref01_Both.asDeep Try.f51.ntmps M_ref01_MakeGrid F 0 (cL (cB (cS (cF (cS (cS (bo Try.f51)))))))) (M_ref01_MakeGrid 0) n r (st_ref01_MakeGrid_0 t0 t1 t6 c5_0 c5_1) K = w_ref01_MakeGrid_0 F  (fun t0 t1 t6 c5_0 c5_1 => K (.exit 0) (st_ref01_MakeGrid_0 t0 t1 t6 c5_0 c5_1)) n t0 t1 t6 c5_0 c5_1 := by
  intro n
  induction n with
  | zero => intros; rfl
  | succ n ih =>
    intro r t0 t1 t6 c5_0 c5_1
    have e : (fun t0 t1 t6 c5_0 c5_1 => iter (exec C_ref01_Both.asDeep Try.f51.ntmps M_ref01_MakeGrid F 0 (cL (cB (cS (cF (cS (cS (bo Try.f51)))))))) (M_ref01_MakeGrid 0) n (r + 1) (st_ref01_MakeGrid_0 t0 t1 t6 c5_0 c5_1) K) = w_ref01_MakeGrid_0 F  (fun t0 t1 t6 c5_0 c5_1 => K (.exit 0) (st_ref01_MakeGrid_0 t0 t1 t6 c5_0 c5_1)) n := by
      funext t0 t1 t6 c5_0 c5_1
      exact ih (r + 1) t0 t1 t6 c5_0 c5_1
    rw [step_ref01_MakeGrid_0, e]
    rfl
theorem nl_ref01_MakeGrid_0 (F : Nat) (Post : AVal UU → Prop) (t0 : List Rect) (t1 : List Rect) (t6 : Int) (c5_0 : List Int) (c5_1 : List Int) : iter (exec C_ref01_Both.asDeep Try.f51.ntmps M_ref01_MakeGrid F 0 (cL (cB (cS (cF (cS (cS (bo Try.f51)))))))) (M_ref01_MakeGrid 0) F 0 (st_ref01_MakeGrid_0 t0 t1 t6 c5_0 c5_1) (k_ref01_MakeGrid_0 F Post) = n_ref01_MakeGrid_0 F (fun r0_X r0_Y r0_On => Post (.agg [.sl .int r0_X, .sl .int r0_Y, .newd .bools r0_On])) t0 t1 t6 c5_0 c5_1 := by
  rw [loop_ref01_MakeGrid_0]
  have e1 : (fun t1 t7 c5_0 c5_1 l96 => iter (exec C_ref01_Both.asDeep Try.f51.ntmps M_ref01_MakeGrid F 2 (cL (cB (cS (cF (cS (cS (cS (bo Try.f51))))))))) (M_ref01_MakeGrid 2) F 0 (st_ref01_MakeGrid_1 t1 t7 c5_0 c5_1 l96) (k_ref01_MakeGrid_1 F Post)) = (n_ref01_MakeGrid_1 F (fun r0_X r0_Y r0_On => Post (.agg [.sl .int r0_X, .sl .int r0_Y, .newd .bools r0_On]))) := by
    funext t1 t7 c5_0 c5_1 l96
    exact nl_ref01_MakeGrid_1 F Post t1 t7 c5_0 c5_1 l96
  have h0 : (fun t0 t1 t6 c5_0 c5_1 => k_ref01_MakeGrid_0 F Post (.exit 0) (st_ref01_MakeGrid_0 t0 t1 t6 c5_0 c5_1)) = (fun t0 t1 t6 c5_0 c5_1 => g_ref01_MakeGrid_c0_0 (fun r0_X r0_Y r0_On => Post (.agg [.sl .int r0_X, .sl .int r0_Y, .newd .bools r0_On])) t0 t1 t6 c5_0 c5_1 (n_ref01_MakeGrid_1 F (fun r0_X r0_Y r0_On => Post (.agg [.sl .int r0_X, .sl .int r0_Y, .newd .bools r0_On])))) := by
    funext t0 t1 t6 c5_0 c5_1
    rw [cont_ref01_MakeGrid_0_0, e1]
  rw [h0]
  rfl
theorem exec_ref01_MakeGrid (F : Nat) (Post : AVal UU → Prop) (a0 : List Rect) (a1 : List Rect) : exec C_ref01_Both.asDeep Try.f51.ntmps M_ref01_MakeGrid F 0 (bo Try.f51) (initSt [.sl .rect a0, .sl .rect a1]) (AEnds C_ref01_Both.asDeep true Try.f51 Post) = w_ref01_MakeGrid F a0 a1 (fun r0_X r0_Y r0_On => Post (.agg [.sl .int r0_X, .sl .int r0_Y, .newd .bools r0_On])) := by
  rw [entry_ref01_MakeGrid]
  have e0 : (fun t0 t1 t6 c5_0 c5_1 => iter (exec C_ref01_Both.asDeep Try.f51.ntmps M_ref01_MakeGrid F 0 (cL (cB (cS (cF (cS (cS (bo Try.f51)))))))) (M_ref01_MakeGrid 0) F 0 (st_ref01_MakeGrid_0 t0 t1 t6 c5_0 c5_1) (k_ref01_MakeGrid_0 F Post)) = (n_ref01_MakeGrid_0 F (fun r0_X r0_Y r0_On => Post (.agg [.sl .int r0_X, .sl .int r0_Y, .newd .bools r0_On]))) := by
    funext t0 t1 t6 c5_0 c5_1
    exact nl_ref01_MakeGrid_0 F Post t0 t1 t6 c5_0 c5_1
  rw [e0]
  rfl
def m_ref01_MakeGrid : Model UU
  | [.sl .rect a0, .sl .rect a1] => some ([pre_ref01_MakeGrid a0 a1], .agg [.sl .int ((sp_ref01_MakeGrid a0 a1).1), .sl .int ((sp_ref01_MakeGrid a0 a1).2.1), .newd .bools ((sp_ref01_MakeGrid a0 a1).2.2)])
  | _ => none
def C_ref01_MakeGrid : Cfg UU := C_ref01_Both.add 51 m_ref01_MakeGrid
theorem s_ref01_MakeGrid : SumOK C_ref01_MakeGrid := by
  refine s_ref01_Both.addDeepD mixed (fn := Try.f51) (c := bo Try.f51) Try.func51 (by kernel_rfl) (by kernel_rfl) ?_
  intro xs cs r h hc
  unfold m_ref01_MakeGrid at h
  split at h
  · rename_i a0 a1
    cases h
    obtain ⟨F, hF⟩ := ok_ref01_MakeGrid a0 a1 hc
    refine ⟨by kernel_rfl, M_ref01_MakeGrid, F, true, ⟨?_⟩⟩
    rw [exec_ref01_MakeGrid]
    refine hF _ ?_
    rfl
  · cases h
def k_ref01_Grid_Size_0 (F : Nat) (Post : AVal UU → Prop) : AEx → ASt UU → Prop := kBlock 0 (kSeq C_ref01_MakeGrid Try.f52.ntmps M_ref01_Grid_Size F 0 (cS (cS (cS (bo Try.f52)))) (AEnds C_ref01_MakeGrid false Try.f52 Post))
def k_ref01_Grid_Size_1 (F n r : Nat) (K : AEx → ASt UU → Prop) : AEx → ASt UU → Prop := kBlock 2 (kBlock 1 (kSeq C_ref01_MakeGrid Try.f52.ntmps M_ref01_Grid_Size F 0 (cS (cS (cL (cB (cS (cF (cS (cS (bo Try.f52))))))))) (kIter (exec C_ref01_MakeGrid Try.f52.ntmps M_ref01_Grid_Size F 0 (cL (cB (cS (cF (cS (cS (bo Try.f52)))))))) (M_ref01_Grid_Size 0) n r K)))
set_option maxRecDepth 100000 in
theorem step_ref01_Grid_Size_0 (F n r : Nat) (K : AEx → ASt UU → Prop) (t3 : Int) (t4 : Int) (c1_0 : List Int) (c1_1 : List Int) (c1_2 : List (List Bool)) : iter (exec C_ref01_MakeGrid Try.f52.ntmps M_ref01_Grid_Size F 0 (cL (cB (cS (cF (cS (cS (bo Try.f52)))))))) (M_ref01_Grid_Size 0) (n + 1) r (st_ref01_Grid_Size_0 t3 t4 c1_0 c1_1 c1_2) K = g_ref01_Grid_Size_s0 (fun t3 t4 c1_0 c1_1 c1_2 => iter (exec C_ref01_MakeGrid Try.f52.ntmps M_ref01_Grid_Size F 0 (cL (cB (cS (cF (cS (cS (bo Try.f52)))))))) (M_ref01_Grid_Size 0) n (r + 1) (st_ref01_Grid_Size_0 t3 t4 c1_0 c1_1 c1_2) K) (fun t3 t4 c1_0 c1_1 c1_2 => K (.exit 0) (st_ref01_Grid_Size_0 t3 t4 c1_0 c1_1 c1_2)) t3 t4 c1_0 c1_1 c1_2 (fun t3 t4 t5 c1_0 c1_1 c1_2 => iter (exec C_ref01_MakeGrid Try.f52.ntmps M_ref01_Grid_Size F 2 (cL (cB (cS (cB (cF (cS (cL (cB (cS (cF (cS (cS (bo Try.f52)))))))))))))) (M_ref01_Grid_Size 2) F 0 (st_ref01_Grid_Size_1 t3 t4 t5 c1_0 c1_1 c1_2) (k_ref01_Grid_Size_1 F n r K)) := by kernel_rfl
set_option maxRecDepth 100000 in
theorem cont_ref01_Grid_Size_0_0 (F : Nat) (Post : AVal UU → Prop) (t3 : Int) (t4 : Int) (c1_0 : List Int) (c1_1 : List Int) (c1_2 : List (List Bool)) : k_ref01_Grid_Size_0 F Post (.exit 0) (st_ref01_Grid_Size_0 t3 t4 c1_0 c1_1 c1_2) = g_ref01_Grid_Size_c0_0 (fun r0 => Post (.int .i64 r0)) t3 t4 c1_0 c1_1 c1_2 := by kernel_rfl
set_option maxRecDepth 100000 in
theorem step_ref01_Grid_Size_1 (F n r : Nat) (K : AEx → ASt UU → Prop) (t3 : Int) (t4 : Int) (t5 : Int) (c1_0 : List Int) (c1_1 : List Int) (c1_2 : List (List Bool)) : iter (exec C_ref01_MakeGrid Try.f52.ntmps M_ref01_Grid_Size F 2 (cL (cB (cS (cB (cF (cS (cL (cB (cS (cF (cS (cS (bo Try.f52)))))))))))))) (M_ref01_Grid_Size 2) (n + 1) r (st_ref01_Grid_Size_1 t3 t4 t5 c1_0 c1_1 c1_2) K = g_ref01_Grid_Size_s1 (fun t3 t4 t5 c1_0 c1_1 c1_2 => iter (exec C_ref01_MakeGrid Try.f52.ntmps M_ref01_Grid_Size F 2 (cL (cB (cS (cB (cF (cS (cL (cB (cS (cF (cS (cS (bo Try.f52)))))))))))))) (M_ref01_Grid_Size 2) n (r + 1) (st_ref01_Grid_Size_1 t3 t4 t5 c1_0 c1_1 c1_2) K) (fun t3 t4 t5 c1_0 c1_1 c1_2 => K (.exit 2) (st_ref01_Grid_Size_1 t3 t4 t5 c1_0 c1_1 c1_2)) t3 t4 t5 c1_0 c1_1 c1_2 := by kernel_rfl
set_option maxRecDepth 100000 in
theorem cont_ref01_Grid_Size_1_0 (F n r : Nat) (K : AEx → ASt UU → Prop) (t3 : Int) (t4 : Int) (t5 : Int) (c1_0 : List Int) (c1_1 : List Int) (c1_2 : List (List Bool)) : k_ref01_Grid_Size_1 F n r K (.exit 2) (st_ref01_Grid_Size_1 t3 t4 t5 c1_0 c1_1 c1_2) = g_ref01_Grid_Size_c1_0 (fun t3 t4 c1_0 c1_1 c1_2 => iter (exec C_ref01_MakeGrid Try.f52.ntmps M_ref01_Grid_Size F 0 (cL (cB (cS (cF (cS (cS (bo Try.f52)))))))) (M_ref01_Grid_Size 0) n (r + 1) (st_ref01_Grid_Size_0 t3 t4 c1_0 c1_1 c1_2) K) (fun t3 t4 c1_0 c1_1 c1_2 => K (.exit 0) (st_ref01_Grid_Size_0 t3 t4 c1_0 c1_1 c1_2)) t3 t4 t5 c1_0 c1_1 c1_2 := by kernel_rfl
set_option maxRecDepth 100000 in
theorem entry_ref01_Grid_Size (F : Nat) (Post : AVal UU → Prop) (a0_X : List Int) (a0_Y : List Int) (a0_On : List (List Bool)) : exec C_ref01_MakeGrid Try.f52.ntmps M_ref01_Grid_Size F 0 (bo Try.f52) (initSt [.agg [.sl .int a0_X, .sl .int a0_Y, .sl .bools a0_On]]) (AEnds C_ref01_MakeGrid false Try.f52 Post) = g_ref01_Grid_Size_e a0_X a0_Y a0_On (fun r0 => Post (.int .i64 r0)) (fun t3 t4 c1_0 c1_1 c1_2 => iter (exec C_ref01_MakeGrid Try.f52.ntmps M_ref01_Grid_Size F 0 (cL (cB (cS (cF (cS (cS (bo Try.f52)))))))) (M_ref01_Grid_Size 0) F 0 (st_ref01_Grid_Size_0 t3 t4 c1_0 c1_1 c1_2) (k_ref01_Grid_Size_0 F Post)) := by kernel_rfl
theorem loop_ref01_Grid_Size_1 (F : Nat) (K : AEx → ASt UU → Prop) : ∀ (n r : Nat) (t3 : Int) (t4 : Int) (t5 : Int) (c1_0 : List Int) (c1_1 : List Int) (c1_2 : List (List Bool)), iter (exec C_ref01_MakeGrid Try.f52.ntmps M_ref01_Grid_Size F 2 (cL (cB (cS (cB (cF (cS (cL (cB (cS (cF (cS (cS (bo Try.f52)))))))))))))) (M_ref01_Grid_Size 2) n r (st_ref01_Grid_Size_1 t3 t4 t5 c1_0 c1_1 c1_2) K = w_ref01_Grid_Size_1 F  (fun t3 t4 t5 c1_0 c1_1 c1_2 => K (.exit 2) (st_ref01_Grid_Size_1 t3 t4 t5 c1_0 c1_1 c1_2)) n t3 t4 t5 c1_0 c1_1 c1_2 := by
  intro n
  induction n with
  | zero => intros; rfl
  | succ n ih =>
    intro r t3 t4 t5 c1_0 c1_1 c1_2
    have e : (fun t3 t4 t5 c1_0 c1_1 c1_2 => iter (exec C_ref01_MakeGrid Try.f52.ntmps M_ref01_Grid_Size F 2 (cL (cB (cS (cB (cF (cS (cL (cB (cS (cF (cS (cS (bo Try.f52)))))))))))))) (M_ref01_Grid_Size 2) n (r + 1) (st_ref01_Grid_Size_1 t3 t4 t5 c1_0 c1_1 c1_2) K) = w_ref01_Grid_Size_1 F  (fun t3 t4 t5 c1_0 c1_1 c1_2 => K (.exit 2) (st_ref01_Grid_Size_1 t3 t4 t5 c1_0 c1_1 c1_2)) n := by
      funext t3 t4 t5 c1_0 c1_1 c1_2
      exact ih (r + 1) t3 t4 t5 c1_0 c1_1 c1_2
    rw [step_ref01_Grid_Size_1, e]
    rfl
theorem nl_ref01_Grid_Size_1 (F n r : Nat) (K : AEx → ASt UU → Prop) (t3 : Int) (t4 : Int) (t5 : Int) (c1_0 : List Int) (c1_1 : List Int) (c1_2 : List (List Bool)) : iter (exec C_ref01_MakeGrid Try.f52.ntmps M_ref01_Grid_Size F 2 (cL (cB (cS (cB (cF (cS (cL (cB (cS (cF (cS (cS (bo Try.f52)))))))))))))) (M_ref01_Grid_Size 2) F 0 (st_ref01_Grid_Size_1 t3 t4 t5 c1_0 c1_1 c1_2) (k_ref01_Grid_Size_1 F n r K) = n_ref01_Grid_Size_1 F (fun t3 t4 c1_0 c1_1 c1_2 => iter (exec C_ref01_MakeGrid Try.f52.ntmps M_ref01_Grid_Size F 0 (cL (cB (cS (cF (cS (cS (bo Try.f52)))))))) (M_ref01_Grid_Size 0) n (r + 1) (st_ref01_Grid_Size_0 t3 t4 c1_0 c1_1 c1_2) K) (fun t3 t4 c1_0 c1_1 c1_2 => K (.exit 0) (st_ref01_Grid_Size_0 t3 t4 c1_0 c1_1 c1_2)) t3 t4 t5 c1_0 c1_1 c1_2 := by
  rw [loop_ref01_Grid_Size_1]
  have h0 : (fun t3 t4 t5 c1_0 c1_1 c1_2 => k_ref01_Grid_Size_1 F n r K (.exit 2) (st_ref01_Grid_Size_1 t3 t4 t5 c1_0 c1_1 c1_2)) = (fun t3 t4 t5 c1_0 c1_1 c1_2 => g_ref01_Grid_Size_c1_0 (fun t3 t4 c1_0 c1_1 c1_2 => iter (exec C_ref01_MakeGrid Try.f52.ntmps M_ref01_Grid_Size F 0 (cL (cB (cS (cF (cS (cS (bo Try.f52)))))))) (M_ref01_Grid_Size 0) n (r + 1) (st_ref01_Grid_Size_0 t3 t4 c1_0 c1_1 c1_2) K) (fun t3 t4 c1_0 c1_1 c1_2 => K (.exit 0) (st_ref01_Grid_Size_0 t3 t4 c1_0 c1_1 c1_2)) t3 t4 t5 c1_0 c1_1 c1_2) := by
    funext t3 t4 t5 c1_0 c1_1 c1_2
    rw [cont_ref01_Grid_Size_1_0]
  rw [h0]
  rfl
theorem loop_ref01_Grid_Size_0 (F : Nat) (K : AEx → ASt UU → Prop) : ∀ (n r : Nat) (t3 : Int) (t4 : Int) (c1_0 : List Int) (c1_1 : List Int) (c1_2 : List (List Bool)), iter (exec C_ref01_MakeGrid Try.f52.ntmps M_ref01_Grid_Size F 0 (cL (cB (cS (cF (cS (cS (bo Try.f52)))))))) (M_ref01_Grid_Size 0) n r (st_ref01_Grid_Size_0 t3 t4 c1_0 c1_1 c1_2) K = w_ref01_Grid_Size_0 F  (fun t3 t4 c1_0 c1_1 c1_2 => K (.exit 0) (st_ref01_Grid_Size_0 t3 t4 c1_0 c1_1 c1_2)) n t3 t4 c1_0 c1_1 c1_2 := by
  intro n
  induction n with
  | zero => intros; rfl
  | succ n ih =>
    intro r t3 t4 c1_0 c1_1 c1_2
    have e : (fun t3 t4 c1_0 c1_1 c1_2 => iter (exec C_ref01_MakeGrid Try.f52.ntmps M_ref01_Grid_Size F 0 (cL (cB (cS (cF (cS (cS (bo Try.f52)))))))) (M_ref01_Grid_Size 0) n (r + 1) (st_ref01_Grid_Size_0 t3 t4 c1_0 c1_1 c1_2) K) = w_ref01_Grid_Size_0 F  (fun t3 t4 c1_0 c1_1 c1_2 => K (.exit 0) (st_ref01_Grid_Size_0 t3 t4 c1_0 c1_1 c1_2)) n := by
      funext t3 t4 c1_0 c1_1 c1_2
      exact ih (r + 1) t3 t4 c1_0 c1_1 c1_2
    have e1 : (fun t3 t4 t5 c1_0 c1_1 c1_2 => iter (exec C_ref01_MakeGrid Try.f52.ntmps M_ref01_Grid_Size F 2 (cL (cB (cS (cB (cF (cS (cL (cB (cS (cF (cS (cS (bo Try.f52)))))))))))))) (M_ref01_Grid_Size 2) F 0 (st_ref01_Grid_Size_1 t3 t4 t5 c1_0 c1_1 c1_2) (k_ref01_Grid_Size_1 F n r K)) = (n_ref01_Grid_Size_1 F (fun t3 t4 c1_0 c1_1 c1_2 => iter (exec C_ref01_MakeGrid Try.f52.ntmps M_ref01_Grid_Size F 0 (cL (cB (cS (cF (cS (cS (bo Try.f52)))))))) (M_ref01_Grid_Size 0) n (r + 1) (st_ref01_Grid_Size_0 t3 t4 c1_0 c1_1 c1_2) K) (fun t3 t4 c1_0 c1_1 c1_2 => K (.exit 0) (st_ref01_Grid_Size_0 t3 t4 c1_0 c1_1 c1_2))) := by
      funext t3 t4 t5 c1_0 c1_1 c1_2
      exact nl_ref01_Grid_Size_1 F n r K t3 t4 t5 c1_0 c1_1 c1_2
    rw [step_ref01_Grid_Size_0, e1, e]
    rfl
theorem nl_ref01_Grid_Size_0 (F : Nat) (Post : AVal UU → Prop) (t3 : Int) (t4 : Int) (c1_0 : List Int) (c1_1 : List Int) (c1_2 : List (List Bool)) : iter (exec C_ref01_MakeGrid Try.f52.ntmps M_ref01_Grid_Size F 0 (cL (cB (cS (cF (cS (cS (bo Try.f52)))))))) (M_ref01_Grid_Size 0) F 0 (st_ref01_Grid_Size_0 t3 t4 c1_0 c1_1 c1_2) (k_ref01_Grid_Size_0 F Post) = n_ref01_Grid_Size_0 F (fun r0 => Post (.int .i64 r0)) t3 t4 c1_0 c1_1 c1_2 := by
  rw [loop_ref01_Grid_Size_0]
  have h0 : (fun t3 t4 c1_0 c1_1 c1_2 => k_ref01_Grid_Size_0 F Post (.exit 0) (st_ref01_Grid_Size_0 t3 t4 c1_0 c1_1 c1_2)) = (fun t3 t4 c1_0 c1_1 c1_2 => g_ref01_Grid_Size_c0_0 (fun r0 => Post (.int .i64 r0)) t3 t4 c1_0 c1_1 c1_2) := by
    funext t3 t4 c1_0 c1_1 c1_2
    rw [cont_ref01_Grid_Size_0_0]
  rw [h0]
  rfl
theorem exec_ref01_Grid_Size (F : Nat) (Post : AVal UU → Prop) (a0_X : List Int) (a0_Y : List Int) (a0_On : List (List Bool)) : exec C_ref01_MakeGrid Try.f52.ntmps M_ref01_Grid_Size F 0 (bo Try.f52) (initSt [.agg [.sl .int a0_X, .sl .int a0_Y, .sl .bools a0_On]]) (AEnds C_ref01_MakeGrid false Try.f52 Post) = w_ref01_Grid_Size F a0_X a0_Y a0_On (fun r0 => Post (.int .i64 r0)) := by
  rw [entry_ref01_Grid_Size]
  have e0 : (fun t3 t4 c1_0 c1_1 c1_2 => iter (exec C_ref01_MakeGrid Try.f52.ntmps M_ref01_Grid_Size F 0 (cL (cB (cS (cF (cS (cS (bo Try.f52)))))))) (M_ref01_Grid_Size 0) F 0 (st_ref01_Grid_Size_0 t3 t4 c1_0 c1_1 c1_2) (k_ref01_Grid_Size_0 F Post)) = (n_ref01_Grid_Size_0 F (fun r0 => Post (.int .i64 r0))) := by
    funext t3 t4 c1_0 c1_1 c1_2
    exact nl_ref01_Grid_Size_0 F Post t3 t4 c1_0 c1_1 c1_2
  rw [e0]
  rfl
def m_ref01_Grid_Size : Model UU
  | [.agg [.sl .int a0_X, .sl .int a0_Y, .sl .bools a0_On]] => some ([pre_ref01_Grid_Size a0_X a0_Y a0_On], .int .i64 (sp_ref01_Grid_Size a0_X a0_Y a0_On))
  | _ => none
def C_ref01_Grid_Size : Cfg UU := C_ref01_MakeGrid.add 52 m_ref01_Grid_Size
theorem s_ref01_Grid_Size : SumOK C_ref01_Grid_Size := by
  refine s_ref01_MakeGrid.addD mixed (fn := Try.f52) (c := bo Try.f52) Try.func52 (by kernel_rfl) (by kernel_rfl) ?_
  intro xs cs r h hc
  unfold m_ref01_Grid_Size at h
  split at h
  · rename_i a0_X a0_Y a0_On
    cases h
    obtain ⟨F, hF⟩ := ok_ref01_Grid_Size a0_X a0_Y a0_On hc
    refine ⟨by kernel_rfl, M_ref01_Grid_Size, F, false, ⟨?_⟩⟩
    rw [exec_ref01_Grid_Size]
    refine hF _ ?_
    rfl
  · cases h
end
end Go.Proofs.Ytohecfbnmmgimaa

namespace Go.Proofs.Ytohecfbnmmgimaa
open Go.Vm Go.RowKit
set_option linter.unusedVariables false
noncomputable section
def k_ref03_Surface_0 (F : Nat) (Post : AVal UU → Prop) : AEx → ASt UU → Prop := kBlock 0 (kSeq C_ref01_Grid_Size.asDeep Try.f24.ntmps M_ref03_Surface F 0 (cS (cS (cS (cS (cS (bo Try.f24)))))) (AEnds C_ref01_Grid_Size.asDeep false Try.f24 Post))
def k_ref03_Surface_1 (F n r : Nat) (K : AEx → ASt UU → Prop) : AEx → ASt UU → Prop := kBlock 2 (kBlock 1 (kSeq C_ref01_Grid_Size.asDeep Try.f24.ntmps M_ref03_Surface F 0 (cS (cS (cL (cB (cS (cF (cS (cS (cS (cS (bo Try.f24))))))))))) (kIter (exec C_ref01_Grid_Size.asDeep Try.f24.ntmps M_ref03_Surface F 0 (cL (cB (cS (cF (cS (cS (cS (cS (bo Try.f24)))))))))) (M_ref03_Surface 0) n r K)))
set_option maxRecDepth 100000 in
theorem step_ref03_Surface_0 (F n r : Nat) (K : AEx → ASt UU → Prop) (t7 : Int) (c5_0 : List Int) (c5_1 : List Int) (c6_0 : List Int) (c6_1 : List Int) (l59 : List (List Bool)) (l60 : List (List Bool)) : iter (exec C_ref01_Grid_Size.asDeep Try.f24.ntmps M_ref03_Surface F 0 (cL (cB (cS (cF (cS (cS (cS (cS (bo Try.f24)))))))))) (M_ref03_Surface 0) (n + 1) r (st_ref03_Surface_0 t7 c5_0 c5_1 c6_0 c6_1 l59 l60) K = g_ref03_Surface_s0 (fun t7 c5_0 c5_1 c6_0 c6_1 l59 l60 => iter (exec C_ref01_Grid_Size.asDeep Try.f24.ntmps M_ref03_Surface F 0 (cL (cB (cS (cF (cS (cS (cS (cS (bo Try.f24)))))))))) (M_ref03_Surface 0) n (r + 1) (st_ref03_Surface_0 t7 c5_0 c5_1 c6_0 c6_1 l59 l60) K) (fun t7 c5_0 c5_1 c6_0 c6_1 l59 l60 => K (.exit 0) (st_ref03_Surface_0 t7 c5_0 c5_1 c6_0 c6_1 l59 l60)) t7 c5_0 c5_1 c6_0 c6_1 l59 l60 (fun t7 t8 c5_0 c5_1 c6_0 c6_1 l59 l60 => iter (exec C_ref01_Grid_Size.asDeep Try.f24.ntmps M_ref03_Surface F 2 (cL (cB (cS (cB (cF (cS (cL (cB (cS (cF (cS (cS (cS (cS (bo Try.f24)))))))))))))))) (M_ref03_Surface 2) F 0 (st_ref03_Surface_1 t7 t8 c5_0 c5_1 c6_0 c6_1 l59 l60) (k_ref03_Surface_1 F n r K)) := by kernel_rfl
set_option maxRecDepth 100000 in
theorem cont_ref03_Surface_0_0 (F : Nat) (Post : AVal UU → Prop) (t7 : Int) (c5_0 : List Int) (c5_1 : List Int) (c6_0 : List Int) (c6_1 : List Int) (l59 : List (List Bool)) (l60 : List (List Bool)) : k_ref03_Surface_0 F Post (.exit 0) (st_ref03_Surface_0 t7 c5_0 c5_1 c6_0 c6_1 l59 l60) = g_ref03_Surface_c0_0 (fun r0 r1 => Post (.tup [.int .i64 r0, .int .i64 r1])) t7 c5_0 c5_1 c6_0 c6_1 l59 l60 := by kernel_rfl
set_option maxRecDepth 100000 in
theorem step_ref03_Surface_1 (F n r : Nat) (K : AEx → ASt UU → Prop) (t7 : Int) (t8 : Int) (c5_0 : List Int) (c5_1 : List Int) (c6_0 : List Int) (c6_1 : List Int) (l59 : List (List Bool)) (l60 : List (List Bool)) : iter (exec C_ref01_Grid_Size.asDeep Try.f24.ntmps M_ref03_Surface F 2 (cL (cB (cS (cB (cF (cS (cL (cB (cS (cF (cS (cS (cS (cS (bo Try.f24)))))))))))))))) (M_ref03_Surface 2) (n + 1) r (st_ref03_Surface_1 t7 t8 c5_0 c5_1 c6_0 c6_1 l59 l60) K = g_ref03_Surface_s1 (fun t7 t8 c5_0 c5_1 c6_0 c6_1 l59 l60 => iter (exec C_ref01_Grid_Size.asDeep Try.f24.ntmps M_ref03_Surface F 2 (cL (cB (cS (cB (cF (cS (cL (cB (cS (cF (cS (cS (cS (cS (bo Try.f24)))))))))))))))) (M_ref03_Surface 2) n (r + 1) (st_ref03_Surface_1 t7 t8 c5_0 c5_1 c6_0 c6_1 l59 l60) K) (fun t7 t8 c5_0 c5_1 c6_0 c6_1 l59 l60 => K (.exit 2) (st_ref03_Surface_1 t7 t8 c5_0 c5_1 c6_0 c6_1 l59 l60)) t7 t8 c5_0 c5_1 c6_0 c6_1 l59 l60 := by kernel_rfl
set_option maxRecDepth 100000 in
theorem cont_ref03_Surface_1_0 (F n r : Nat) (K : AEx → ASt UU → Prop) (t7 : Int) (t8 : Int) (c5_0 : List Int) (c5_1 : List Int) (c6_0 : List Int) (c6_1 : List Int) (l59 : List (List Bool)) (l60 : List (List Bool)) : k_ref03_Surface_1 F n r K (.exit 2) (st_ref03_Surface_1 t7 t8 c5_0 c5_1 c6_0 c6_1 l59 l60) = g_ref03_Surface_c1_0 (fun t7 c5_0 c5_1 c6_0 c6_1 l59 l60 => iter (exec C_ref01_Grid_Size.asDeep Try.f24.ntmps M_ref03_Surface F 0 (cL (cB (cS (cF (cS (cS (cS (cS (bo Try.f24)))))))))) (M_ref03_Surface 0) n (r + 1) (st_ref03_Surface_0 t7 c5_0 c5_1 c6_0 c6_1 l59 l60) K) (fun t7 c5_0 c5_1 c6_0 c6_1 l59 l60 => K (.exit 0) (st_ref03_Surface_0 t7 c5_0 c5_1 c6_0 c6_1 l59 l60)) t7 t8 c5_0 c5_1 c6_0 c6_1 l59 l60 := by kernel_rfl
set_option maxRecDepth 100000 in
theorem entry_ref03_Surface (F : Nat) (Post : AVal UU → Prop) (a0_Rects : List Rect) (a0_Cuts : List Rect) (a0_Forms : List Rect) (a0_Bends : List Bend) : exec C_ref01_Grid_Size.asDeep Try.f24.ntmps M_ref03_Surface F 0 (bo Try.f24) (initSt [.agg [.sl .rect a0_Rects, .sl .rect a0_Cuts, .sl .rect a0_Forms, .sl .bend a0_Bends]]) (AEnds C_ref01_Grid_Size.asDeep false Try.f24 Post) = g_ref03_Surface_e a0_Rects a0_Cuts a0_Forms a0_Bends (fun r0 r1 => Post (.tup [.int .i64 r0, .int .i64 r1])) (fun t7 c5_0 c5_1 c6_0 c6_1 l59 l60 => iter (exec C_ref01_Grid_Size.asDeep Try.f24.ntmps M_ref03_Surface F 0 (cL (cB (cS (cF (cS (cS (cS (cS (bo Try.f24)))))))))) (M_ref03_Surface 0) F 0 (st_ref03_Surface_0 t7 c5_0 c5_1 c6_0 c6_1 l59 l60) (k_ref03_Surface_0 F Post)) := by kernel_rfl
theorem loop_ref03_Surface_1 (F : Nat) (K : AEx → ASt UU → Prop) : ∀ (n r : Nat) (t7 : Int) (t8 : Int) (c5_0 : List Int) (c5_1 : List Int) (c6_0 : List Int) (c6_1 : List Int) (l59 : List (List Bool)) (l60 : List (List Bool)), iter (exec C_ref01_Grid_Size.asDeep Try.f24.ntmps M_ref03_Surface F 2 (cL (cB (cS (cB (cF (cS (cL (cB (cS (cF (cS (cS (cS (cS (bo Try.f24)))))))))))))))) (M_ref03_Surface 2) n r (st_ref03_Surface_1 t7 t8 c5_0 c5_1 c6_0 c6_1 l59 l60) K = w_ref03_Surface_1 F  (fun t7 t8 c5_0 c5_1 c6_0 c6_1 l59 l60 => K (.exit 2) (st_ref03_Surface_1 t7 t8 c5_0 c5_1 c6_0 c6_1 l59 l60)) n t7 t8 c5_0 c5_1 c6_0 c6_1 l59 l60 := by
  intro n
  induction n with
  | zero => intros; rfl
  | succ n ih =>
    intro r t7 t8 c5_0 c5_1 c6_0 c6_1 l59 l60
    have e : (fun t7 t8 c5_0 c5_1 c6_0 c6_1 l59 l60 => iter (exec C_ref01_Grid_Size.asDeep Try.f24.ntmps M_ref03_Surface F 2 (cL (cB (cS (cB (cF (cS (cL (cB (cS (cF (cS (cS (cS (cS (bo Try.f24)))))))))))))))) (M_ref03_Surface 2) n (r + 1) (st_ref03_Surface_1 t7 t8 c5_0 c5_1 c6_0 c6_1 l59 l60) K) = w_ref03_Surface_1 F  (fun t7 t8 c5_0 c5_1 c6_0 c6_1 l59 l60 => K (.exit 2) (st_ref03_Surface_1 t7 t8 c5_0 c5_1 c6_0 c6_1 l59 l60)) n := by
      funext t7 t8 c5_0 c5_1 c6_0 c6_1 l59 l60
      exact ih (r + 1) t7 t8 c5_0 c5_1 c6_0 c6_1 l59 l60
    rw [step_ref03_Surface_1, e]
    rfl
theorem nl_ref03_Surface_1 (F n r : Nat) (K : AEx → ASt UU → Prop) (t7 : Int) (t8 : Int) (c5_0 : List Int) (c5_1 : List Int) (c6_0 : List Int) (c6_1 : List Int) (l59 : List (List Bool)) (l60 : List (List Bool)) : iter (exec C_ref01_Grid_Size.asDeep Try.f24.ntmps M_ref03_Surface F 2 (cL (cB (cS (cB (cF (cS (cL (cB (cS (cF (cS (cS (cS (cS (bo Try.f24)))))))))))))))) (M_ref03_Surface 2) F 0 (st_ref03_Surface_1 t7 t8 c5_0 c5_1 c6_0 c6_1 l59 l60) (k_ref03_Surface_1 F n r K) = n_ref03_Surface_1 F (fun t7 c5_0 c5_1 c6_0 c6_1 l59 l60 => iter (exec C_ref01_Grid_Size.asDeep Try.f24.ntmps M_ref03_Surface F 0 (cL (cB (cS (cF (cS (cS (cS (cS (bo Try.f24)))))))))) (M_ref03_Surface 0) n (r + 1) (st_ref03_Surface_0 t7 c5_0 c5_1 c6_0 c6_1 l59 l60) K) (fun t7 c5_0 c5_1 c6_0 c6_1 l59 l60 => K (.exit 0) (st_ref03_Surface_0 t7 c5_0 c5_1 c6_0 c6_1 l59 l60)) t7 t8 c5_0 c5_1 c6_0 c6_1 l59 l60 := by
  rw [loop_ref03_Surface_1]
  have h0 : (fun t7 t8 c5_0 c5_1 c6_0 c6_1 l59 l60 => k_ref03_Surface_1 F n r K (.exit 2) (st_ref03_Surface_1 t7 t8 c5_0 c5_1 c6_0 c6_1 l59 l60)) = (fun t7 t8 c5_0 c5_1 c6_0 c6_1 l59 l60 => g_ref03_Surface_c1_0 (fun t7 c5_0 c5_1 c6_0 c6_1 l59 l60 => iter (exec C_ref01_Grid_Size.asDeep Try.f24.ntmps M_ref03_Surface F 0 (cL (cB (cS (cF (cS (cS (cS (cS (bo Try.f24)))))))))) (M_ref03_Surface 0) n (r + 1) (st_ref03_Surface_0 t7 c5_0 c5_1 c6_0 c6_1 l59 l60) K) (fun t7 c5_0 c5_1 c6_0 c6_1 l59 l60 => K (.exit 0) (st_ref03_Surface_0 t7 c5_0 c5_1 c6_0 c6_1 l59 l60)) t7 t8 c5_0 c5_1 c6_0 c6_1 l59 l60) := by
    funext t7 t8 c5_0 c5_1 c6_0 c6_1 l59 l60
    rw [cont_ref03_Surface_1_0]
  rw [h0]
  rfl
theorem loop_ref03_Surface_0 (F : Nat) (K : AEx → ASt UU → Prop) : ∀ (n r : Nat) (t7 : Int) (c5_0 : List Int) (c5_1 : List Int) (c6_0 : List Int) (c6_1 : List Int) (l59 : List (List Bool)) (l60 : List (List Bool)), iter (exec C_ref01_Grid_Size.asDeep Try.f24.ntmps M_ref03_Surface F 0 (cL (cB (cS (cF (cS (cS (cS (cS (bo Try.f24)))))))))) (M_ref03_Surface 0) n r (st_ref03_Surface_0 t7 c5_0 c5_1 c6_0 c6_1 l59 l60) K = w_ref03_Surface_0 F  (fun t7 c5_0 c5_1 c6_0 c6_1 l59 l60 => K (.exit 0) (st_ref03_Surface_0 t7 c5_0 c5_1 c6_0 c6_1 l59 l60)) n t7 c5_0 c5_1 c6_0 c6_1 l59 l60 := by
  intro n
  induction n with
  | zero => intros; rfl
  | succ n ih =>
    intro r t7 c5_0 c5_1 c6_0 c6_1 l59 l60
    have e : (fun t7 c5_0 c5_1 c6_0 c6_1 l59 l60 => iter (exec C_ref01_Grid_Size.asDeep Try.f24.ntmps M_ref03_Surface F 0 (cL (cB (cS (cF (cS (cS (cS (cS (bo Try.f24)))))))))) (M_ref03_Surface 0) n (r + 1) (st_ref03_Surface_0 t7 c5_0 c5_1 c6_0 c6_1 l59 l60) K) = w_ref03_Surface_0 F  (fun t7 c5_0 c5_1 c6_0 c6_1 l59 l60 => K (.exit 0) (st_ref03_Surface_0 t7 c5_0 c5_1 c6_0 c6_1 l59 l60)) n := by
      funext t7 c5_0 c5_1 c6_0 c6_1 l59 l60
      exact ih (r + 1) t7 c5_0 c5_1 c6_0 c6_1 l59 l60
    have e1 : (fun t7 t8 c5_0 c5_1 c6_0 c6_1 l59 l60 => iter (exec C_ref01_Grid_Size.asDeep Try.f24.ntmps M_ref03_Surface F 2 (cL (cB (cS (cB (cF (cS (cL (cB (cS (cF (cS (cS (cS (cS (bo Try.f24)))))))))))))))) (M_ref03_Surface 2) F 0 (st_ref03_Surface_1 t7 t8 c5_0 c5_1 c6_0 c6_1 l59 l60) (k_ref03_Surface_1 F n r K)) = (n_ref03_Surface_1 F (fun t7 c5_0 c5_1 c6_0 c6_1 l59 l60 => iter (exec C_ref01_Grid_Size.asDeep Try.f24.ntmps M_ref03_Surface F 0 (cL (cB (cS (cF (cS (cS (cS (cS (bo Try.f24)))))))))) (M_ref03_Surface 0) n (r + 1) (st_ref03_Surface_0 t7 c5_0 c5_1 c6_0 c6_1 l59 l60) K) (fun t7 c5_0 c5_1 c6_0 c6_1 l59 l60 => K (.exit 0) (st_ref03_Surface_0 t7 c5_0 c5_1 c6_0 c6_1 l59 l60))) := by
      funext t7 t8 c5_0 c5_1 c6_0 c6_1 l59 l60
      exact nl_ref03_Surface_1 F n r K t7 t8 c5_0 c5_1 c6_0 c6_1 l59 l60
    rw [step_ref03_Surface_0, e1, e]
    rfl
theorem nl_ref03_Surface_0 (F : Nat) (Post : AVal UU → Prop) (t7 : Int) (c5_0 : List Int) (c5_1 : List Int) (c6_0 : List Int) (c6_1 : List Int) (l59 : List (List Bool)) (l60 : List (List Bool)) : iter (exec C_ref01_Grid_Size.asDeep Try.f24.ntmps M_ref03_Surface F 0 (cL (cB (cS (cF (cS (cS (cS (cS (bo Try.f24)))))))))) (M_ref03_Surface 0) F 0 (st_ref03_Surface_0 t7 c5_0 c5_1 c6_0 c6_1 l59 l60) (k_ref03_Surface_0 F Post) = n_ref03_Surface_0 F (fun r0 r1 => Post (.tup [.int .i64 r0, .int .i64 r1])) t7 c5_0 c5_1 c6_0 c6_1 l59 l60 := by
  rw [loop_ref03_Surface_0]
  have h0 : (fun t7 c5_0 c5_1 c6_0 c6_1 l59 l60 => k_ref03_Surface_0 F Post (.exit 0) (st_ref03_Surface_0 t7 c5_0 c5_1 c6_0 c6_1 l59 l60)) = (fun t7 c5_0 c5_1 c6_0 c6_1 l59 l60 => g_ref03_Surface_c0_0 (fun r0 r1 => Post (.tup [.int .i64 r0, .int .i64 r1])) t7 c5_0 c5_1 c6_0 c6_1 l59 l60) := by
    funext t7 c5_0 c5_1 c6_0 c6_1 l59 l60
    rw [cont_ref03_Surface_0_0]
  rw [h0]
  rfl
theorem exec_ref03_Surface (F : Nat) (Post : AVal UU → Prop) (a0_Rects : List Rect) (a0_Cuts : List Rect) (a0_Forms : List Rect) (a0_Bends : List Bend) : exec C_ref01_Grid_Size.asDeep Try.f24.ntmps M_ref03_Surface F 0 (bo Try.f24) (initSt [.agg [.sl .rect a0_Rects, .sl .rect a0_Cuts, .sl .rect a0_Forms, .sl .bend a0_Bends]]) (AEnds C_ref01_Grid_Size.asDeep false Try.f24 Post) = w_ref03_Surface F a0_Rects a0_Cuts a0_Forms a0_Bends (fun r0 r1 => Post (.tup [.int .i64 r0, .int .i64 r1])) := by
  rw [entry_ref03_Surface]
  have e0 : (fun t7 c5_0 c5_1 c6_0 c6_1 l59 l60 => iter (exec C_ref01_Grid_Size.asDeep Try.f24.ntmps M_ref03_Surface F 0 (cL (cB (cS (cF (cS (cS (cS (cS (bo Try.f24)))))))))) (M_ref03_Surface 0) F 0 (st_ref03_Surface_0 t7 c5_0 c5_1 c6_0 c6_1 l59 l60) (k_ref03_Surface_0 F Post)) = (n_ref03_Surface_0 F (fun r0 r1 => Post (.tup [.int .i64 r0, .int .i64 r1]))) := by
    funext t7 c5_0 c5_1 c6_0 c6_1 l59 l60
    exact nl_ref03_Surface_0 F Post t7 c5_0 c5_1 c6_0 c6_1 l59 l60
  rw [e0]
  rfl
def m_ref03_Surface : Model UU
  | [.agg [.sl .rect a0_Rects, .sl .rect a0_Cuts, .sl .rect a0_Forms, .sl .bend a0_Bends]] => some ([pre_ref03_Surface a0_Rects a0_Cuts a0_Forms a0_Bends], .tup [.int .i64 ((sp_ref03_Surface a0_Rects a0_Cuts a0_Forms a0_Bends).1), .int .i64 ((sp_ref03_Surface a0_Rects a0_Cuts a0_Forms a0_Bends).2)])
  | _ => none
def C_ref03_Surface : Cfg UU := C_ref01_Grid_Size.add 24 m_ref03_Surface
theorem s_ref03_Surface : SumOK C_ref03_Surface := by
  refine s_ref01_Grid_Size.addDeepD mixed (fn := Try.f24) (c := bo Try.f24) Try.func24 (by kernel_rfl) (by kernel_rfl) ?_
  intro xs cs r h hc
  unfold m_ref03_Surface at h
  split at h
  · rename_i a0_Rects a0_Cuts a0_Forms a0_Bends
    cases h
    obtain ⟨F, hF⟩ := ok_ref03_Surface a0_Rects a0_Cuts a0_Forms a0_Bends hc
    refine ⟨by kernel_rfl, M_ref03_Surface, F, false, ⟨?_⟩⟩
    rw [exec_ref03_Surface]
    refine hF _ ?_
    rfl
  · cases h
end
end Go.Proofs.Ytohecfbnmmgimaa

namespace Go.Proofs.Ytohecfbnmmgimaa
open Go.Vm Go.RowKit
set_option linter.unusedVariables false
noncomputable section
set_option maxRecDepth 100000 in
theorem entry_law03_FlatSurfaces (F : Nat) (Post : AVal UU → Prop) (a0_Rects : List Rect) (a0_Cuts : List Rect) (a0_Forms : List Rect) (a0_Bends : List Bend) : exec C_ref03_Surface Try.f6.ntmps M_law03_FlatSurfaces F 0 (bo Try.f6) (initSt [.agg [.sl .rect a0_Rects, .sl .rect a0_Cuts, .sl .rect a0_Forms, .sl .bend a0_Bends]]) (AEnds C_ref03_Surface false Try.f6 Post) = g_law03_FlatSurfaces_e a0_Rects a0_Cuts a0_Forms a0_Bends (fun r0 => Post (.bool r0)) := by kernel_rfl
theorem exec_law03_FlatSurfaces (F : Nat) (Post : AVal UU → Prop) (a0_Rects : List Rect) (a0_Cuts : List Rect) (a0_Forms : List Rect) (a0_Bends : List Bend) : exec C_ref03_Surface Try.f6.ntmps M_law03_FlatSurfaces F 0 (bo Try.f6) (initSt [.agg [.sl .rect a0_Rects, .sl .rect a0_Cuts, .sl .rect a0_Forms, .sl .bend a0_Bends]]) (AEnds C_ref03_Surface false Try.f6 Post) = w_law03_FlatSurfaces F a0_Rects a0_Cuts a0_Forms a0_Bends (fun r0 => Post (.bool r0)) := by
  rw [entry_law03_FlatSurfaces]
  rfl
end
end Go.Proofs.Ytohecfbnmmgimaa

namespace Go.Proofs.Ytohecfbnmmgimaa
open Go.Vm Go.ChangeShapes Go.WideShapes Go.ChangeAt Go.RowKit Go.Joins
set_option linter.unusedVariables false
noncomputable section

theorem own : ownKnob Try.prog.godebug = none := by kernel_rfl
theorem laidOut : laidOutB Try.prog = true := by kernel_rfl
theorem inv_of {W : World} (h : W.ShapedOpen Try.prog) : inv0 W := Try.laysM144.s1_3 W h

theorem rect_all (ns : List Int) (h : ns.length = UU.size .rect) : ∃ z : UU.T .rect, EE.enc .rect z = ns.map (AVal.int .i64) := by
  match ns, h with
  | [a, b, c, d], _ => exact ⟨Rect.mk a b c d, rfl⟩
theorem bend_all (ns : List Int) (h : ns.length = UU.size .bend) : ∃ z : UU.T .bend, EE.enc .bend z = ns.map (AVal.int .i64) := by
  match ns, h with
  | [a, b, c, d, e, f, g, k], _ => exact ⟨Bend.mk a b c d e f g k, rfl⟩
theorem opens_rect {C : Cfg UU} (hP : C.P = Try.prog) (hE : C.E = EE) {H : Type} {enc : TypeId × Value → H} {W : World} : Opens C enc W 30 .rect := by
  obtain ⟨P, E, elt, sum, plain, plainOK, inv, invOK⟩ := C
  obtain rfl : P = Try.prog := hP
  obtain rfl : E = EE := hE
  exact opens_ints 5 (by kernel_rfl) (by kernel_rfl) (by kernel_rfl) (by kernel_rfl) rect_all
theorem opens_bend {C : Cfg UU} (hP : C.P = Try.prog) (hE : C.E = EE) {H : Type} {enc : TypeId × Value → H} {W : World} : Opens C enc W 60 .bend := by
  obtain ⟨P, E, elt, sum, plain, plainOK, inv, invOK⟩ := C
  obtain rfl : P = Try.prog := hP
  obtain rfl : E = EE := hE
  exact opens_ints 5 (by kernel_rfl) (by kernel_rfl) (by kernel_rfl) (by kernel_rfl) bend_all

set_option maxRecDepth 100000 in
/-- A pattern that came in. -/
theorem open_flat {H : Type} {enc : TypeId × Value → H} {W : World} {base : Nat} {v : Value} {x : DataW H} {ps : List MemPlace} (hok : Value.okWide Try.prog W .any base 25 v) (h : DataW.Trod enc Try.prog W 0 (fun _ => true) true 25 v x ps) :
    ∃ (R C M : List Rect) (B : List Bend), Rel EE W noOwn (Out' (fun _ => False) W) (AVal.agg [.sl .rect R, .sl .rect C, .sl .rect M, .sl .bend B] : AVal UU) v := by
  obtain ⟨zs, h1, h2, h3⟩ := open_agg (C := C_base) (d := 5) (t := 25) (fun u hu => by
    have hl : leafTys Try.prog 5 25 = [22, 22, 22, 23] := by kernel_rfl
    have hu' : u ∈ [22, 22, 22, 23] := hl ▸ hu
    have h22 : leafKind C_base.P 22 = true ∧ ∀ e, C_base.P.underlying 22 = some (.slice e) → ∃ τ, C_base.elt e = some τ ∧ Opens C_base enc W e τ := by
      refine ⟨by kernel_rfl, fun e he => ?_⟩
      rw [show C_base.P.underlying 22 = _ from Try.underlying22] at he
      cases he
      exact ⟨.rect, by kernel_rfl, opens_rect (by kernel_rfl) (by kernel_rfl)⟩
    simp only [List.mem_cons, List.not_mem_nil, or_false] at hu'
    rcases hu' with rfl | rfl | rfl | rfl
    · exact h22
    · exact h22
    · exact h22
    · refine ⟨by kernel_rfl, fun e he => ?_⟩
      rw [show C_base.P.underlying 23 = _ from Try.underlying23] at he
      cases he
      exact ⟨.bend, by kernel_rfl, opens_bend (by kernel_rfl) (by kernel_rfl)⟩) (by kernel_rfl) (by kernel_rfl) (by kernel_rfl) hok h
  have hl : leafTys C_base.P 5 25 = [22, 22, 22, 23] := by kernel_rfl
  simp only [hl] at h1 h2
  match zs, h1 with
  | [a0, a1, a2, a3], _ =>
    have f0 := h2 0 (by simp) (by simp)
    have f1 := h2 1 (by simp) (by simp)
    have f2 := h2 2 (by simp) (by simp)
    have f3 := h2 3 (by simp) (by simp)
    simp only [List.getElem_cons_zero, List.getElem_cons_succ, Fits] at f0 f1 f2 f3
    rw [show C_base.P.underlying 22 = _ from Try.underlying22] at f0 f1 f2
    rw [show C_base.P.underlying 23 = _ from Try.underlying23] at f3
    obtain ⟨τ0, R, hτ0, rfl, _⟩ := f0
    obtain ⟨τ1, C, hτ1, rfl, _⟩ := f1
    obtain ⟨τ2, M, hτ2, rfl, _⟩ := f2
    obtain ⟨τ3, B, hτ3, rfl, _⟩ := f3
    have hr : C_base.elt 30 = some .rect := by kernel_rfl
    have hb : C_base.elt 60 = some .bend := by kernel_rfl
    obtain rfl : Knd.rect = τ0 := Option.some.inj (hr.symm.trans hτ0)
    obtain rfl : Knd.rect = τ1 := Option.some.inj (hr.symm.trans hτ1)
    obtain rfl : Knd.rect = τ2 := Option.some.inj (hr.symm.trans hτ2)
    obtain rfl : Knd.bend = τ3 := Option.some.inj (hb.symm.trans hτ3)
    exact ⟨R, C, M, B, h3⟩

end
end Go.Proofs.Ytohecfbnmmgimaa

namespace Go.Proofs.Ytohecfbnmmgimaa
open Go.Vm Go.ChangeShapes Go.WideShapes Go.ChangeAt Go.RowKit Go.Joins
set_option linter.unusedVariables false
noncomputable section
set_option maxRecDepth 100000 in
theorem walk6 {v : Value} {R C M : List Rect} {B : List Bend} (W : World) (hi : inv0 W) (hr : Rel EE W noOwn (Out' (fun _ => False) W) (AVal.agg [.sl .rect R, .sl .rect C, .sl .rect M, .sl .bend B] : AVal UU) v) :
    Calls Try.prog 6 #[v] W fun e W' => e = .returned (.bool true) ∧ Below W.heap.size W W' := by
  refine law_callsM (fr := false) (C := C_ref03_Surface) (c := bo Try.f6) (M := M_law03_FlatSurfaces) (fuel := 1001) s_ref03_Surface mixed Try.func6 (by kernel_rfl) (xs := [.agg [.sl .rect R, .sl .rect C, .sl .rect M, .sl .bend B]]) hi ⟨rfl, fun k hk => ?_⟩ (by kernel_rfl) ⟨?_⟩
  · match k, hk with
    | 0, _ => exact hr
  · rw [exec_law03_FlatSurfaces]
    refine cast ?_ (law_surfaces R C M B)
    congr 1
    funext r
    simp
set_option maxRecDepth 100000 in
theorem lifted6 (os : Os) (started : os.Started) (H : Type) (enc : TypeId × Value → H) :
    ReturnsInHanded {} Try.checked os 6 .any (Rows.flatSurfacesSpec.pre6 enc Try.prog Try.f6 Rows.flatSurfacesRow.domain false) (Rows.flatSurfacesSpec.post enc Try.prog Try.f6 false true false false) := by
  refine returnsInHanded_of_change_shaped (C := Try.checked) own started (by kernel_rfl) Try.func6
    (ChangeSpec.witness6 (enc := enc) (C := Try.checked) false ⟨#[], #[.agg #[.slice none 0 0, .slice none 0 0, .slice none 0 0, .slice none 0 0]], []⟩ 8 (by kernel_rfl) (by kernel_rfl) (by kernel_rfl) (by kernel_rfl)) ?_
  intro W base args ds gs before hval0 hW _ _ hsh _
  have hval : ∀ (j : Nat) t v, Try.f6.params[j]? = some t → args[j]? = some v → Value.okWide Try.prog W .any base t v := hval0
  have hsh' : W.ShapedOpen Try.prog := hsh
  have hW' := hW
  obtain ⟨p, q, hA0, hV, rfl, _, _⟩ := hW
  have hA : DataW.TrodAll enc Try.prog W 0 (fun _ => true) true Try.f6.params.toList args.toList ds p := hA0
  rw [Try.params6] at hA hval
  obtain ⟨v0, vs0, d0, ds0, p0, q0, hargs, rfl, rfl, h0, r0⟩ := trodAll_cons hA
  obtain ⟨rfl, rfl, rfl⟩ := trodAll_nil r0
  obtain rfl : args = #[v0] := by cases args; simp_all
  obtain ⟨R, C, M, B, hr⟩ := open_flat (hval 0 25 v0 rfl rfl) h0
  refine (walk6 W (inv_of hsh') hr).mono fun e W' ⟨he, hb⟩ => ?_
  subst he
  exact ⟨_, rfl, law_post (tb := 4) laidOut (by kernel_rfl) rfl Try.underlying4 rfl rfl hW' hb⟩

theorem surfaces : Rows.FlatSurfacesSaid :=
  OpenClaim.holds_of_wide 6 Try.f6 rfl rfl rfl rfl rfl rfl rfl ⟨rfl, rfl, rfl, rfl, rfl⟩ rfl rfl rfl rfl rfl (by kernel_rfl) Try.func6 (by kernel_rfl)
    (of_decide_eq_true (by kernel_rfl)) (by unfold Func.isWrapper; first | (rw [if_pos (by decide +kernel)]; kernel_rfl) | (rw [if_neg (by decide +kernel)]; exact ⟨rfl, rfl⟩))
    (fun os started H enc _ => lifted6 os started H enc)
end
end Go.Proofs.Ytohecfbnmmgimaa
