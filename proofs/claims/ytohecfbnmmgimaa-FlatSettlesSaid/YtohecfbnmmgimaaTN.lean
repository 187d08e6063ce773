/- That the code says what the printed pieces say, by the kernel; printed by gen.py. Conditions: none. -/
import Derived.Test.YtohecfbnmmgimaaHN
import Derived.Test.YtohecfbnmmgimaaTM
namespace Go.Proofs.Ytohecfbnmmgimaa
open Go.Vm Go.RowKit
set_option linter.unusedVariables false
noncomputable section
def k_mapS_0 (F : Nat) (Post : AVal UU → Prop) : AEx → ASt UU → Prop := kBlock 0 (kSeq C_ref03_SameFlat Try.f58.ntmps M_mapS F 0 (cS (cS (cS (cS (bo Try.f58))))) (AEnds C_ref03_SameFlat true Try.f58 Post))
set_option maxRecDepth 100000 in
theorem step_mapS_0 (F n r : Nat) (K : AEx → ASt UU → Prop) (t2_0_0 : Int) (t2_0_1 : Int) (t2_0_2 : Int) (t2_0_3 : Int) (t26 : List Bend) (t27 : Int) (t28 : Int) (l45 : List Rect) (l46 : List Rect) (l47 : List Rect) (l48 : List Bend) : iter (exec C_ref03_SameFlat Try.f58.ntmps M_mapS F 0 (cL (cB (cS (cF (cS (cS (cS (bo Try.f58))))))))) (M_mapS 0) (n + 1) r (st_mapS_0 t2_0_0 t2_0_1 t2_0_2 t2_0_3 t26 t27 t28 l45 l46 l47 l48) K = g_mapS_s0 (fun t2_0_0 t2_0_1 t2_0_2 t2_0_3 t26 t27 t28 l45 l46 l47 l48 => iter (exec C_ref03_SameFlat Try.f58.ntmps M_mapS F 0 (cL (cB (cS (cF (cS (cS (cS (bo Try.f58))))))))) (M_mapS 0) n (r + 1) (st_mapS_0 t2_0_0 t2_0_1 t2_0_2 t2_0_3 t26 t27 t28 l45 l46 l47 l48) K) (fun t2_0_0 t2_0_1 t2_0_2 t2_0_3 t26 t27 t28 l45 l46 l47 l48 => K (.exit 0) (st_mapS_0 t2_0_0 t2_0_1 t2_0_2 t2_0_3 t26 t27 t28 l45 l46 l47 l48)) t2_0_0 t2_0_1 t2_0_2 t2_0_3 t26 t27 t28 l45 l46 l47 l48 := by kernel_rfl
set_option maxRecDepth 100000 in
theorem cont_mapS_0_0 (F : Nat) (Post : AVal UU → Prop) (t2_0_0 : Int) (t2_0_1 : Int) (t2_0_2 : Int) (t2_0_3 : Int) (t26 : List Bend) (t27 : Int) (t28 : Int) (l45 : List Rect) (l46 : List Rect) (l47 : List Rect) (l48 : List Bend) : k_mapS_0 F Post (.exit 0) (st_mapS_0 t2_0_0 t2_0_1 t2_0_2 t2_0_3 t26 t27 t28 l45 l46 l47 l48) = g_mapS_c0_0 (fun r0_Rects r0_Cuts r0_Forms r0_Bends => Post (.agg [.new .rect r0_Rects, .new .rect r0_Cuts, .new .rect r0_Forms, .new .bend r0_Bends])) t2_0_0 t2_0_1 t2_0_2 t2_0_3 t26 t27 t28 l45 l46 l47 l48 := by kernel_rfl
set_option maxRecDepth 100000 in
theorem entry_mapS (F : Nat) (Post : AVal UU → Prop) (a0_Rects : List Rect) (a0_Cuts : List Rect) (a0_Forms : List Rect) (a0_Bends : List Bend) (b_X : Int) (b_Y : Int) (b_W : Int) (b_H : Int) (c_X : Int) (c_Y : Int) (c_W : Int) (c_H : Int) : exec C_ref03_SameFlat Try.f58.ntmps M_mapS F 0 (bo Try.f58) (initSt [.agg [.sl .rect a0_Rects, .sl .rect a0_Cuts, .sl .rect a0_Forms, .sl .bend a0_Bends], .fn 59 [.ref [.int .i64 b_X, .int .i64 b_Y, .int .i64 b_W, .int .i64 b_H] 0], .fn 60 [.ref [.int .i64 c_X, .int .i64 c_Y, .int .i64 c_W, .int .i64 c_H] 0]]) (AEnds C_ref03_SameFlat true Try.f58 Post) = g_mapS_e a0_Rects a0_Cuts a0_Forms a0_Bends b_X b_Y b_W b_H c_X c_Y c_W c_H (fun r0_Rects r0_Cuts r0_Forms r0_Bends => Post (.agg [.new .rect r0_Rects, .new .rect r0_Cuts, .new .rect r0_Forms, .new .bend r0_Bends])) (fun t2_0_0 t2_0_1 t2_0_2 t2_0_3 t26 t27 t28 l45 l46 l47 l48 => iter (exec C_ref03_SameFlat Try.f58.ntmps M_mapS F 0 (cL (cB (cS (cF (cS (cS (cS (bo Try.f58))))))))) (M_mapS 0) F 0 (st_mapS_0 t2_0_0 t2_0_1 t2_0_2 t2_0_3 t26 t27 t28 l45 l46 l47 l48) (k_mapS_0 F Post)) := by kernel_rfl
theorem loop_mapS_0 (F : Nat) (K : AEx → ASt UU → Prop) : ∀ (n r : Nat) (t2_0_0 : Int) (t2_0_1 : Int) (t2_0_2 : Int) (t2_0_3 : Int) (t26 : List Bend) (t27 : Int) (t28 : Int) (l45 : List Rect) (l46 : List Rect) (l47 : List Rect) (l48 : List Bend), iter (exec C_ref03_SameFlat Try.f58.ntmps M_mapS F 0 (cL (cB (cS (cF (cS (cS (cS (bo Try.f58))))))))) (M_mapS 0) n r (st_mapS_0 t2_0_0 t2_0_1 t2_0_2 t2_0_3 t26 t27 t28 l45 l46 l47 l48) K = w_mapS_0 F  (fun t2_0_0 t2_0_1 t2_0_2 t2_0_3 t26 t27 t28 l45 l46 l47 l48 => K (.exit 0) (st_mapS_0 t2_0_0 t2_0_1 t2_0_2 t2_0_3 t26 t27 t28 l45 l46 l47 l48)) n t2_0_0 t2_0_1 t2_0_2 t2_0_3 t26 t27 t28 l45 l46 l47 l48 := by
  intro n
  induction n with
  | zero => intros; rfl
  | succ n ih =>
    intro r t2_0_0 t2_0_1 t2_0_2 t2_0_3 t26 t27 t28 l45 l46 l47 l48
    have e : (fun t2_0_0 t2_0_1 t2_0_2 t2_0_3 t26 t27 t28 l45 l46 l47 l48 => iter (exec C_ref03_SameFlat Try.f58.ntmps M_mapS F 0 (cL (cB (cS (cF (cS (cS (cS (bo Try.f58))))))))) (M_mapS 0) n (r + 1) (st_mapS_0 t2_0_0 t2_0_1 t2_0_2 t2_0_3 t26 t27 t28 l45 l46 l47 l48) K) = w_mapS_0 F  (fun t2_0_0 t2_0_1 t2_0_2 t2_0_3 t26 t27 t28 l45 l46 l47 l48 => K (.exit 0) (st_mapS_0 t2_0_0 t2_0_1 t2_0_2 t2_0_3 t26 t27 t28 l45 l46 l47 l48)) n := by
      funext t2_0_0 t2_0_1 t2_0_2 t2_0_3 t26 t27 t28 l45 l46 l47 l48
      exact ih (r + 1) t2_0_0 t2_0_1 t2_0_2 t2_0_3 t26 t27 t28 l45 l46 l47 l48
    rw [step_mapS_0, e]
    rfl
theorem nl_mapS_0 (F : Nat) (Post : AVal UU → Prop) (t2_0_0 : Int) (t2_0_1 : Int) (t2_0_2 : Int) (t2_0_3 : Int) (t26 : List Bend) (t27 : Int) (t28 : Int) (l45 : List Rect) (l46 : List Rect) (l47 : List Rect) (l48 : List Bend) : iter (exec C_ref03_SameFlat Try.f58.ntmps M_mapS F 0 (cL (cB (cS (cF (cS (cS (cS (bo Try.f58))))))))) (M_mapS 0) F 0 (st_mapS_0 t2_0_0 t2_0_1 t2_0_2 t2_0_3 t26 t27 t28 l45 l46 l47 l48) (k_mapS_0 F Post) = n_mapS_0 F (fun r0_Rects r0_Cuts r0_Forms r0_Bends => Post (.agg [.new .rect r0_Rects, .new .rect r0_Cuts, .new .rect r0_Forms, .new .bend r0_Bends])) t2_0_0 t2_0_1 t2_0_2 t2_0_3 t26 t27 t28 l45 l46 l47 l48 := by
  rw [loop_mapS_0]
  have h0 : (fun t2_0_0 t2_0_1 t2_0_2 t2_0_3 t26 t27 t28 l45 l46 l47 l48 => k_mapS_0 F Post (.exit 0) (st_mapS_0 t2_0_0 t2_0_1 t2_0_2 t2_0_3 t26 t27 t28 l45 l46 l47 l48)) = (fun t2_0_0 t2_0_1 t2_0_2 t2_0_3 t26 t27 t28 l45 l46 l47 l48 => g_mapS_c0_0 (fun r0_Rects r0_Cuts r0_Forms r0_Bends => Post (.agg [.new .rect r0_Rects, .new .rect r0_Cuts, .new .rect r0_Forms, .new .bend r0_Bends])) t2_0_0 t2_0_1 t2_0_2 t2_0_3 t26 t27 t28 l45 l46 l47 l48) := by
    funext t2_0_0 t2_0_1 t2_0_2 t2_0_3 t26 t27 t28 l45 l46 l47 l48
    rw [cont_mapS_0_0]
  rw [h0]
  rfl
theorem exec_mapS (F : Nat) (Post : AVal UU → Prop) (a0_Rects : List Rect) (a0_Cuts : List Rect) (a0_Forms : List Rect) (a0_Bends : List Bend) (b_X : Int) (b_Y : Int) (b_W : Int) (b_H : Int) (c_X : Int) (c_Y : Int) (c_W : Int) (c_H : Int) : exec C_ref03_SameFlat Try.f58.ntmps M_mapS F 0 (bo Try.f58) (initSt [.agg [.sl .rect a0_Rects, .sl .rect a0_Cuts, .sl .rect a0_Forms, .sl .bend a0_Bends], .fn 59 [.ref [.int .i64 b_X, .int .i64 b_Y, .int .i64 b_W, .int .i64 b_H] 0], .fn 60 [.ref [.int .i64 c_X, .int .i64 c_Y, .int .i64 c_W, .int .i64 c_H] 0]]) (AEnds C_ref03_SameFlat true Try.f58 Post) = w_mapS F a0_Rects a0_Cuts a0_Forms a0_Bends b_X b_Y b_W b_H c_X c_Y c_W c_H (fun r0_Rects r0_Cuts r0_Forms r0_Bends => Post (.agg [.new .rect r0_Rects, .new .rect r0_Cuts, .new .rect r0_Forms, .new .bend r0_Bends])) := by
  rw [entry_mapS]
  have e0 : (fun t2_0_0 t2_0_1 t2_0_2 t2_0_3 t26 t27 t28 l45 l46 l47 l48 => iter (exec C_ref03_SameFlat Try.f58.ntmps M_mapS F 0 (cL (cB (cS (cF (cS (cS (cS (bo Try.f58))))))))) (M_mapS 0) F 0 (st_mapS_0 t2_0_0 t2_0_1 t2_0_2 t2_0_3 t26 t27 t28 l45 l46 l47 l48) (k_mapS_0 F Post)) = (n_mapS_0 F (fun r0_Rects r0_Cuts r0_Forms r0_Bends => Post (.agg [.new .rect r0_Rects, .new .rect r0_Cuts, .new .rect r0_Forms, .new .bend r0_Bends]))) := by
    funext t2_0_0 t2_0_1 t2_0_2 t2_0_3 t26 t27 t28 l45 l46 l47 l48
    exact nl_mapS_0 F Post t2_0_0 t2_0_1 t2_0_2 t2_0_3 t26 t27 t28 l45 l46 l47 l48
  rw [e0]
  rfl
def k_mapQ_0 (F : Nat) (Post : AVal UU → Prop) : AEx → ASt UU → Prop := kBlock 0 (kSeq C_ref03_SameFlat Try.f58.ntmps M_mapQ F 0 (cS (cS (cS (cS (bo Try.f58))))) (AEnds C_ref03_SameFlat true Try.f58 Post))
set_option maxRecDepth 100000 in
theorem step_mapQ_0 (F n r : Nat) (K : AEx → ASt UU → Prop) (t26 : List Bend) (t27 : Int) (t28 : Int) (l45 : List Rect) (l46 : List Rect) (l47 : List Rect) (l48 : List Bend) : iter (exec C_ref03_SameFlat Try.f58.ntmps M_mapQ F 0 (cL (cB (cS (cF (cS (cS (cS (bo Try.f58))))))))) (M_mapQ 0) (n + 1) r (st_mapQ_0 t26 t27 t28 l45 l46 l47 l48) K = g_mapQ_s0 (fun t26 t27 t28 l45 l46 l47 l48 => iter (exec C_ref03_SameFlat Try.f58.ntmps M_mapQ F 0 (cL (cB (cS (cF (cS (cS (cS (bo Try.f58))))))))) (M_mapQ 0) n (r + 1) (st_mapQ_0 t26 t27 t28 l45 l46 l47 l48) K) (fun t26 t27 t28 l45 l46 l47 l48 => K (.exit 0) (st_mapQ_0 t26 t27 t28 l45 l46 l47 l48)) t26 t27 t28 l45 l46 l47 l48 := by kernel_rfl
set_option maxRecDepth 100000 in
theorem cont_mapQ_0_0 (F : Nat) (Post : AVal UU → Prop) (t26 : List Bend) (t27 : Int) (t28 : Int) (l45 : List Rect) (l46 : List Rect) (l47 : List Rect) (l48 : List Bend) : k_mapQ_0 F Post (.exit 0) (st_mapQ_0 t26 t27 t28 l45 l46 l47 l48) = g_mapQ_c0_0 (fun r0_Rects r0_Cuts r0_Forms r0_Bends => Post (.agg [.new .rect r0_Rects, .new .rect r0_Cuts, .new .rect r0_Forms, .new .bend r0_Bends])) t26 t27 t28 l45 l46 l47 l48 := by kernel_rfl
set_option maxRecDepth 100000 in
theorem entry_mapQ (F : Nat) (Post : AVal UU → Prop) (a0_Rects : List Rect) (a0_Cuts : List Rect) (a0_Forms : List Rect) (a0_Bends : List Bend) : exec C_ref03_SameFlat Try.f58.ntmps M_mapQ F 0 (bo Try.f58) (initSt [.agg [.sl .rect a0_Rects, .sl .rect a0_Cuts, .sl .rect a0_Forms, .sl .bend a0_Bends], .fn 63 [], .fn 64 []]) (AEnds C_ref03_SameFlat true Try.f58 Post) = g_mapQ_e a0_Rects a0_Cuts a0_Forms a0_Bends (fun r0_Rects r0_Cuts r0_Forms r0_Bends => Post (.agg [.new .rect r0_Rects, .new .rect r0_Cuts, .new .rect r0_Forms, .new .bend r0_Bends])) (fun t26 t27 t28 l45 l46 l47 l48 => iter (exec C_ref03_SameFlat Try.f58.ntmps M_mapQ F 0 (cL (cB (cS (cF (cS (cS (cS (bo Try.f58))))))))) (M_mapQ 0) F 0 (st_mapQ_0 t26 t27 t28 l45 l46 l47 l48) (k_mapQ_0 F Post)) := by kernel_rfl
theorem loop_mapQ_0 (F : Nat) (K : AEx → ASt UU → Prop) : ∀ (n r : Nat) (t26 : List Bend) (t27 : Int) (t28 : Int) (l45 : List Rect) (l46 : List Rect) (l47 : List Rect) (l48 : List Bend), iter (exec C_ref03_SameFlat Try.f58.ntmps M_mapQ F 0 (cL (cB (cS (cF (cS (cS (cS (bo Try.f58))))))))) (M_mapQ 0) n r (st_mapQ_0 t26 t27 t28 l45 l46 l47 l48) K = w_mapQ_0 F  (fun t26 t27 t28 l45 l46 l47 l48 => K (.exit 0) (st_mapQ_0 t26 t27 t28 l45 l46 l47 l48)) n t26 t27 t28 l45 l46 l47 l48 := by
  intro n
  induction n with
  | zero => intros; rfl
  | succ n ih =>
    intro r t26 t27 t28 l45 l46 l47 l48
    have e : (fun t26 t27 t28 l45 l46 l47 l48 => iter (exec C_ref03_SameFlat Try.f58.ntmps M_mapQ F 0 (cL (cB (cS (cF (cS (cS (cS (bo Try.f58))))))))) (M_mapQ 0) n (r + 1) (st_mapQ_0 t26 t27 t28 l45 l46 l47 l48) K) = w_mapQ_0 F  (fun t26 t27 t28 l45 l46 l47 l48 => K (.exit 0) (st_mapQ_0 t26 t27 t28 l45 l46 l47 l48)) n := by
      funext t26 t27 t28 l45 l46 l47 l48
      exact ih (r + 1) t26 t27 t28 l45 l46 l47 l48
    rw [step_mapQ_0, e]
    rfl
theorem nl_mapQ_0 (F : Nat) (Post : AVal UU → Prop) (t26 : List Bend) (t27 : Int) (t28 : Int) (l45 : List Rect) (l46 : List Rect) (l47 : List Rect) (l48 : List Bend) : iter (exec C_ref03_SameFlat Try.f58.ntmps M_mapQ F 0 (cL (cB (cS (cF (cS (cS (cS (bo Try.f58))))))))) (M_mapQ 0) F 0 (st_mapQ_0 t26 t27 t28 l45 l46 l47 l48) (k_mapQ_0 F Post) = n_mapQ_0 F (fun r0_Rects r0_Cuts r0_Forms r0_Bends => Post (.agg [.new .rect r0_Rects, .new .rect r0_Cuts, .new .rect r0_Forms, .new .bend r0_Bends])) t26 t27 t28 l45 l46 l47 l48 := by
  rw [loop_mapQ_0]
  have h0 : (fun t26 t27 t28 l45 l46 l47 l48 => k_mapQ_0 F Post (.exit 0) (st_mapQ_0 t26 t27 t28 l45 l46 l47 l48)) = (fun t26 t27 t28 l45 l46 l47 l48 => g_mapQ_c0_0 (fun r0_Rects r0_Cuts r0_Forms r0_Bends => Post (.agg [.new .rect r0_Rects, .new .rect r0_Cuts, .new .rect r0_Forms, .new .bend r0_Bends])) t26 t27 t28 l45 l46 l47 l48) := by
    funext t26 t27 t28 l45 l46 l47 l48
    rw [cont_mapQ_0_0]
  rw [h0]
  rfl
theorem exec_mapQ (F : Nat) (Post : AVal UU → Prop) (a0_Rects : List Rect) (a0_Cuts : List Rect) (a0_Forms : List Rect) (a0_Bends : List Bend) : exec C_ref03_SameFlat Try.f58.ntmps M_mapQ F 0 (bo Try.f58) (initSt [.agg [.sl .rect a0_Rects, .sl .rect a0_Cuts, .sl .rect a0_Forms, .sl .bend a0_Bends], .fn 63 [], .fn 64 []]) (AEnds C_ref03_SameFlat true Try.f58 Post) = w_mapQ F a0_Rects a0_Cuts a0_Forms a0_Bends (fun r0_Rects r0_Cuts r0_Forms r0_Bends => Post (.agg [.new .rect r0_Rects, .new .rect r0_Cuts, .new .rect r0_Forms, .new .bend r0_Bends])) := by
  rw [entry_mapQ]
  have e0 : (fun t26 t27 t28 l45 l46 l47 l48 => iter (exec C_ref03_SameFlat Try.f58.ntmps M_mapQ F 0 (cL (cB (cS (cF (cS (cS (cS (bo Try.f58))))))))) (M_mapQ 0) F 0 (st_mapQ_0 t26 t27 t28 l45 l46 l47 l48) (k_mapQ_0 F Post)) = (n_mapQ_0 F (fun r0_Rects r0_Cuts r0_Forms r0_Bends => Post (.agg [.new .rect r0_Rects, .new .rect r0_Cuts, .new .rect r0_Forms, .new .bend r0_Bends]))) := by
    funext t26 t27 t28 l45 l46 l47 l48
    exact nl_mapQ_0 F Post t26 t27 t28 l45 l46 l47 l48
  rw [e0]
  rfl
def m_mapS : Model UU
  | [.agg [.sl .rect a0_Rects, .sl .rect a0_Cuts, .sl .rect a0_Forms, .sl .bend a0_Bends], .fn 59 [.ref [.int .i64 b_X, .int .i64 b_Y, .int .i64 b_W, .int .i64 b_H] 0], .fn 60 [.ref [.int .i64 c_X, .int .i64 c_Y, .int .i64 c_W, .int .i64 c_H] 0]] => some ([pre_mapS a0_Rects a0_Cuts a0_Forms a0_Bends b_X b_Y b_W b_H c_X c_Y c_W c_H], .agg [.new .rect ((sp_mapS a0_Rects a0_Cuts a0_Forms a0_Bends b_X b_Y b_W b_H c_X c_Y c_W c_H).1), .new .rect ((sp_mapS a0_Rects a0_Cuts a0_Forms a0_Bends b_X b_Y b_W b_H c_X c_Y c_W c_H).2.1), .new .rect ((sp_mapS a0_Rects a0_Cuts a0_Forms a0_Bends b_X b_Y b_W b_H c_X c_Y c_W c_H).2.2.1), .new .bend ((sp_mapS a0_Rects a0_Cuts a0_Forms a0_Bends b_X b_Y b_W b_H c_X c_Y c_W c_H).2.2.2)])
  | [.agg [.sl .rect a0_Rects, .sl .rect a0_Cuts, .sl .rect a0_Forms, .sl .bend a0_Bends], .fn 63 [], .fn 64 []] => some ([pre_mapQ a0_Rects a0_Cuts a0_Forms a0_Bends], .agg [.new .rect ((sp_mapQ a0_Rects a0_Cuts a0_Forms a0_Bends).1), .new .rect ((sp_mapQ a0_Rects a0_Cuts a0_Forms a0_Bends).2.1), .new .rect ((sp_mapQ a0_Rects a0_Cuts a0_Forms a0_Bends).2.2.1), .new .bend ((sp_mapQ a0_Rects a0_Cuts a0_Forms a0_Bends).2.2.2)])
  | _ => none
def C_mapS : Cfg UU := C_ref03_SameFlat.add 58 m_mapS
theorem s_mapS : SumOK C_mapS := by
  refine s_ref03_SameFlat.addD mixed (fn := Try.f58) (c := bo Try.f58) Try.func58 (by kernel_rfl) (by kernel_rfl) ?_
  intro xs cs r h hc
  unfold m_mapS at h
  split at h
  · rename_i a0_Rects a0_Cuts a0_Forms a0_Bends b_X b_Y b_W b_H c_X c_Y c_W c_H
    cases h
    obtain ⟨F, hF⟩ := ok_mapS a0_Rects a0_Cuts a0_Forms a0_Bends b_X b_Y b_W b_H c_X c_Y c_W c_H hc
    refine ⟨by kernel_rfl, M_mapS, F, true, ⟨?_⟩⟩
    rw [exec_mapS]
    refine hF _ ?_
    rfl
  · rename_i a0_Rects a0_Cuts a0_Forms a0_Bends
    cases h
    obtain ⟨F, hF⟩ := ok_mapQ a0_Rects a0_Cuts a0_Forms a0_Bends hc
    refine ⟨by kernel_rfl, M_mapQ, F, true, ⟨?_⟩⟩
    rw [exec_mapQ]
    refine hF _ ?_
    rfl
  · cases h
def k_ref03_move_flat_0 (F : Nat) (Post : AVal UU → Prop) : AEx → ASt UU → Prop := kBlock 0 (kSeq C_mapS Try.f35.ntmps M_ref03_move_flat F 0 (cS (cS (cS (bo Try.f35)))) (AEnds C_mapS true Try.f35 Post))
set_option maxRecDepth 100000 in
theorem step_ref03_move_flat_0 (F n r : Nat) (K : AEx → ASt UU → Prop) (t6 : Int) (c2_0 : Int) (c2_1 : Int) (c2_2 : Int) (c3_0 : List Rect) (c3_1 : List Rect) (c3_2 : List Rect) (c3_3 : List Bend) (l45 : List Rect) (l46 : List Rect) (l47 : List Rect) (l48 : List Bend) : iter (exec C_mapS Try.f35.ntmps M_ref03_move_flat F 0 (cL (cB (cS (cF (cS (cS (bo Try.f35)))))))) (M_ref03_move_flat 0) (n + 1) r (st_ref03_move_flat_0 t6 c2_0 c2_1 c2_2 c3_0 c3_1 c3_2 c3_3 l45 l46 l47 l48) K = g_ref03_move_flat_s0 (fun t6 c2_0 c2_1 c2_2 c3_0 c3_1 c3_2 c3_3 l45 l46 l47 l48 => iter (exec C_mapS Try.f35.ntmps M_ref03_move_flat F 0 (cL (cB (cS (cF (cS (cS (bo Try.f35)))))))) (M_ref03_move_flat 0) n (r + 1) (st_ref03_move_flat_0 t6 c2_0 c2_1 c2_2 c3_0 c3_1 c3_2 c3_3 l45 l46 l47 l48) K) (fun t6 c2_0 c2_1 c2_2 c3_0 c3_1 c3_2 c3_3 l45 l46 l47 l48 => K (.exit 0) (st_ref03_move_flat_0 t6 c2_0 c2_1 c2_2 c3_0 c3_1 c3_2 c3_3 l45 l46 l47 l48)) t6 c2_0 c2_1 c2_2 c3_0 c3_1 c3_2 c3_3 l45 l46 l47 l48 := by kernel_rfl
set_option maxRecDepth 100000 in
theorem cont_ref03_move_flat_0_0 (F : Nat) (Post : AVal UU → Prop) (t6 : Int) (c2_0 : Int) (c2_1 : Int) (c2_2 : Int) (c3_0 : List Rect) (c3_1 : List Rect) (c3_2 : List Rect) (c3_3 : List Bend) (l45 : List Rect) (l46 : List Rect) (l47 : List Rect) (l48 : List Bend) : k_ref03_move_flat_0 F Post (.exit 0) (st_ref03_move_flat_0 t6 c2_0 c2_1 c2_2 c3_0 c3_1 c3_2 c3_3 l45 l46 l47 l48) = g_ref03_move_flat_c0_0 (fun r0_Rects r0_Cuts r0_Forms r0_Bends => Post (.agg [.new .rect r0_Rects, .new .rect r0_Cuts, .new .rect r0_Forms, .new .bend r0_Bends])) t6 c2_0 c2_1 c2_2 c3_0 c3_1 c3_2 c3_3 l45 l46 l47 l48 := by kernel_rfl
set_option maxRecDepth 100000 in
theorem entry_ref03_move_flat (F : Nat) (Post : AVal UU → Prop) (a0_turns : Int) (a0_x : Int) (a0_y : Int) (a1_Rects : List Rect) (a1_Cuts : List Rect) (a1_Forms : List Rect) (a1_Bends : List Bend) : exec C_mapS Try.f35.ntmps M_ref03_move_flat F 0 (bo Try.f35) (initSt [.agg [.int .i64 a0_turns, .int .i64 a0_x, .int .i64 a0_y], .agg [.sl .rect a1_Rects, .sl .rect a1_Cuts, .sl .rect a1_Forms, .sl .bend a1_Bends]]) (AEnds C_mapS true Try.f35 Post) = g_ref03_move_flat_e a0_turns a0_x a0_y a1_Rects a1_Cuts a1_Forms a1_Bends (fun r0_Rects r0_Cuts r0_Forms r0_Bends => Post (.agg [.new .rect r0_Rects, .new .rect r0_Cuts, .new .rect r0_Forms, .new .bend r0_Bends])) (fun t6 c2_0 c2_1 c2_2 c3_0 c3_1 c3_2 c3_3 l45 l46 l47 l48 => iter (exec C_mapS Try.f35.ntmps M_ref03_move_flat F 0 (cL (cB (cS (cF (cS (cS (bo Try.f35)))))))) (M_ref03_move_flat 0) F 0 (st_ref03_move_flat_0 t6 c2_0 c2_1 c2_2 c3_0 c3_1 c3_2 c3_3 l45 l46 l47 l48) (k_ref03_move_flat_0 F Post)) := by kernel_rfl
theorem loop_ref03_move_flat_0 (F : Nat) (K : AEx → ASt UU → Prop) : ∀ (n r : Nat) (t6 : Int) (c2_0 : Int) (c2_1 : Int) (c2_2 : Int) (c3_0 : List Rect) (c3_1 : List Rect) (c3_2 : List Rect) (c3_3 : List Bend) (l45 : List Rect) (l46 : List Rect) (l47 : List Rect) (l48 : List Bend), iter (exec C_mapS Try.f35.ntmps M_ref03_move_flat F 0 (cL (cB (cS (cF (cS (cS (bo Try.f35)))))))) (M_ref03_move_flat 0) n r (st_ref03_move_flat_0 t6 c2_0 c2_1 c2_2 c3_0 c3_1 c3_2 c3_3 l45 l46 l47 l48) K = w_ref03_move_flat_0 F  (fun t6 c2_0 c2_1 c2_2 c3_0 c3_1 c3_2 c3_3 l45 l46 l47 l48 => K (.exit 0) (st_ref03_move_flat_0 t6 c2_0 c2_1 c2_2 c3_0 c3_1 c3_2 c3_3 l45 l46 l47 l48)) n t6 c2_0 c2_1 c2_2 c3_0 c3_1 c3_2 c3_3 l45 l46 l47 l48 := by
  intro n
  induction n with
  | zero => intros; rfl
  | succ n ih =>
    intro r t6 c2_0 c2_1 c2_2 c3_0 c3_1 c3_2 c3_3 l45 l46 l47 l48
    have e : (fun t6 c2_0 c2_1 c2_2 c3_0 c3_1 c3_2 c3_3 l45 l46 l47 l48 => iter (exec C_mapS Try.f35.ntmps M_ref03_move_flat F 0 (cL (cB (cS (cF (cS (cS (bo Try.f35)))))))) (M_ref03_move_flat 0) n (r + 1) (st_ref03_move_flat_0 t6 c2_0 c2_1 c2_2 c3_0 c3_1 c3_2 c3_3 l45 l46 l47 l48) K) = w_ref03_move_flat_0 F  (fun t6 c2_0 c2_1 c2_2 c3_0 c3_1 c3_2 c3_3 l45 l46 l47 l48 => K (.exit 0) (st_ref03_move_flat_0 t6 c2_0 c2_1 c2_2 c3_0 c3_1 c3_2 c3_3 l45 l46 l47 l48)) n := by
      funext t6 c2_0 c2_1 c2_2 c3_0 c3_1 c3_2 c3_3 l45 l46 l47 l48
      exact ih (r + 1) t6 c2_0 c2_1 c2_2 c3_0 c3_1 c3_2 c3_3 l45 l46 l47 l48
    rw [step_ref03_move_flat_0, e]
    rfl
theorem nl_ref03_move_flat_0 (F : Nat) (Post : AVal UU → Prop) (t6 : Int) (c2_0 : Int) (c2_1 : Int) (c2_2 : Int) (c3_0 : List Rect) (c3_1 : List Rect) (c3_2 : List Rect) (c3_3 : List Bend) (l45 : List Rect) (l46 : List Rect) (l47 : List Rect) (l48 : List Bend) : iter (exec C_mapS Try.f35.ntmps M_ref03_move_flat F 0 (cL (cB (cS (cF (cS (cS (bo Try.f35)))))))) (M_ref03_move_flat 0) F 0 (st_ref03_move_flat_0 t6 c2_0 c2_1 c2_2 c3_0 c3_1 c3_2 c3_3 l45 l46 l47 l48) (k_ref03_move_flat_0 F Post) = n_ref03_move_flat_0 F (fun r0_Rects r0_Cuts r0_Forms r0_Bends => Post (.agg [.new .rect r0_Rects, .new .rect r0_Cuts, .new .rect r0_Forms, .new .bend r0_Bends])) t6 c2_0 c2_1 c2_2 c3_0 c3_1 c3_2 c3_3 l45 l46 l47 l48 := by
  rw [loop_ref03_move_flat_0]
  have h0 : (fun t6 c2_0 c2_1 c2_2 c3_0 c3_1 c3_2 c3_3 l45 l46 l47 l48 => k_ref03_move_flat_0 F Post (.exit 0) (st_ref03_move_flat_0 t6 c2_0 c2_1 c2_2 c3_0 c3_1 c3_2 c3_3 l45 l46 l47 l48)) = (fun t6 c2_0 c2_1 c2_2 c3_0 c3_1 c3_2 c3_3 l45 l46 l47 l48 => g_ref03_move_flat_c0_0 (fun r0_Rects r0_Cuts r0_Forms r0_Bends => Post (.agg [.new .rect r0_Rects, .new .rect r0_Cuts, .new .rect r0_Forms, .new .bend r0_Bends])) t6 c2_0 c2_1 c2_2 c3_0 c3_1 c3_2 c3_3 l45 l46 l47 l48) := by
    funext t6 c2_0 c2_1 c2_2 c3_0 c3_1 c3_2 c3_3 l45 l46 l47 l48
    rw [cont_ref03_move_flat_0_0]
  rw [h0]
  rfl
theorem exec_ref03_move_flat (F : Nat) (Post : AVal UU → Prop) (a0_turns : Int) (a0_x : Int) (a0_y : Int) (a1_Rects : List Rect) (a1_Cuts : List Rect) (a1_Forms : List Rect) (a1_Bends : List Bend) : exec C_mapS Try.f35.ntmps M_ref03_move_flat F 0 (bo Try.f35) (initSt [.agg [.int .i64 a0_turns, .int .i64 a0_x, .int .i64 a0_y], .agg [.sl .rect a1_Rects, .sl .rect a1_Cuts, .sl .rect a1_Forms, .sl .bend a1_Bends]]) (AEnds C_mapS true Try.f35 Post) = w_ref03_move_flat F a0_turns a0_x a0_y a1_Rects a1_Cuts a1_Forms a1_Bends (fun r0_Rects r0_Cuts r0_Forms r0_Bends => Post (.agg [.new .rect r0_Rects, .new .rect r0_Cuts, .new .rect r0_Forms, .new .bend r0_Bends])) := by
  rw [entry_ref03_move_flat]
  have e0 : (fun t6 c2_0 c2_1 c2_2 c3_0 c3_1 c3_2 c3_3 l45 l46 l47 l48 => iter (exec C_mapS Try.f35.ntmps M_ref03_move_flat F 0 (cL (cB (cS (cF (cS (cS (bo Try.f35)))))))) (M_ref03_move_flat 0) F 0 (st_ref03_move_flat_0 t6 c2_0 c2_1 c2_2 c3_0 c3_1 c3_2 c3_3 l45 l46 l47 l48) (k_ref03_move_flat_0 F Post)) = (n_ref03_move_flat_0 F (fun r0_Rects r0_Cuts r0_Forms r0_Bends => Post (.agg [.new .rect r0_Rects, .new .rect r0_Cuts, .new .rect r0_Forms, .new .bend r0_Bends]))) := by
    funext t6 c2_0 c2_1 c2_2 c3_0 c3_1 c3_2 c3_3 l45 l46 l47 l48
    exact nl_ref03_move_flat_0 F Post t6 c2_0 c2_1 c2_2 c3_0 c3_1 c3_2 c3_3 l45 l46 l47 l48
  rw [e0]
  rfl
def m_ref03_move_flat : Model UU
  | [.agg [.int .i64 a0_turns, .int .i64 a0_x, .int .i64 a0_y], .agg [.sl .rect a1_Rects, .sl .rect a1_Cuts, .sl .rect a1_Forms, .sl .bend a1_Bends]] => some ([pre_ref03_move_flat a0_turns a0_x a0_y a1_Rects a1_Cuts a1_Forms a1_Bends], .agg [.new .rect ((sp_ref03_move_flat a0_turns a0_x a0_y a1_Rects a1_Cuts a1_Forms a1_Bends).1), .new .rect ((sp_ref03_move_flat a0_turns a0_x a0_y a1_Rects a1_Cuts a1_Forms a1_Bends).2.1), .new .rect ((sp_ref03_move_flat a0_turns a0_x a0_y a1_Rects a1_Cuts a1_Forms a1_Bends).2.2.1), .new .bend ((sp_ref03_move_flat a0_turns a0_x a0_y a1_Rects a1_Cuts a1_Forms a1_Bends).2.2.2)])
  | _ => none
def C_ref03_move_flat : Cfg UU := C_mapS.add 35 m_ref03_move_flat
theorem s_ref03_move_flat : SumOK C_ref03_move_flat := by
  refine s_mapS.addD mixed (fn := Try.f35) (c := bo Try.f35) Try.func35 (by kernel_rfl) (by kernel_rfl) ?_
  intro xs cs r h hc
  unfold m_ref03_move_flat at h
  split at h
  · rename_i a0_turns a0_x a0_y a1_Rects a1_Cuts a1_Forms a1_Bends
    cases h
    obtain ⟨F, hF⟩ := ok_ref03_move_flat a0_turns a0_x a0_y a1_Rects a1_Cuts a1_Forms a1_Bends hc
    refine ⟨by kernel_rfl, M_ref03_move_flat, F, true, ⟨?_⟩⟩
    rw [exec_ref03_move_flat]
    refine hF _ ?_
    rfl
  · cases h
end
end Go.Proofs.Ytohecfbnmmgimaa
