/- That the code says what the printed pieces say, by the kernel; printed by gen.py. Conditions: none. -/
import Derived.Test.YtohecfbnmmgimaaHK
import Derived.Test.YtohecfbnmmgimaaTJ
namespace Go.Proofs.Ytohecfbnmmgimaa
open Go.Vm Go.RowKit
set_option linter.unusedVariables false
noncomputable section
def k_allS_0 (F : Nat) (Post : AVal UU → Prop) : AEx → ASt UU → Prop := kBlock 0 (kSeq C_ref01_SameRects Try.f81.ntmps M_allS F 0 (cS (cS (cS (bo Try.f81)))) (AEnds C_ref01_SameRects true Try.f81 Post))
set_option maxRecDepth 100000 in
theorem step_allS_0 (F n r : Nat) (K : AEx → ASt UU → Prop) (t1_0_0_0 : Int) (t1_0_0_1 : Int) (t1_0_0_2 : Int) (t1_0_0_3 : Int) (t7 : List Rect) (t8 : Int) (t9 : Int) (l21 : List Rect) : iter (exec C_ref01_SameRects Try.f81.ntmps M_allS F 0 (cL (cB (cS (cF (cS (cS (bo Try.f81)))))))) (M_allS 0) (n + 1) r (st_allS_0 t1_0_0_0 t1_0_0_1 t1_0_0_2 t1_0_0_3 t7 t8 t9 l21) K = g_allS_s0 (fun t1_0_0_0 t1_0_0_1 t1_0_0_2 t1_0_0_3 t7 t8 t9 l21 => iter (exec C_ref01_SameRects Try.f81.ntmps M_allS F 0 (cL (cB (cS (cF (cS (cS (bo Try.f81)))))))) (M_allS 0) n (r + 1) (st_allS_0 t1_0_0_0 t1_0_0_1 t1_0_0_2 t1_0_0_3 t7 t8 t9 l21) K) (fun t1_0_0_0 t1_0_0_1 t1_0_0_2 t1_0_0_3 t7 t8 t9 l21 => K (.exit 0) (st_allS_0 t1_0_0_0 t1_0_0_1 t1_0_0_2 t1_0_0_3 t7 t8 t9 l21)) t1_0_0_0 t1_0_0_1 t1_0_0_2 t1_0_0_3 t7 t8 t9 l21 := by kernel_rfl
set_option maxRecDepth 100000 in
theorem cont_allS_0_0 (F : Nat) (Post : AVal UU → Prop) (t1_0_0_0 : Int) (t1_0_0_1 : Int) (t1_0_0_2 : Int) (t1_0_0_3 : Int) (t7 : List Rect) (t8 : Int) (t9 : Int) (l21 : List Rect) : k_allS_0 F Post (.exit 0) (st_allS_0 t1_0_0_0 t1_0_0_1 t1_0_0_2 t1_0_0_3 t7 t8 t9 l21) = g_allS_c0_0 (fun r0 => Post (.new .rect r0)) t1_0_0_0 t1_0_0_1 t1_0_0_2 t1_0_0_3 t7 t8 t9 l21 := by kernel_rfl
set_option maxRecDepth 100000 in
theorem entry_allS (F : Nat) (Post : AVal UU → Prop) (a0 : List Rect) (b_X : Int) (b_Y : Int) (b_W : Int) (b_H : Int) : exec C_ref01_SameRects Try.f81.ntmps M_allS F 0 (bo Try.f81) (initSt [.sl .rect a0, .ref [.fn 59 [.ref [.int .i64 b_X, .int .i64 b_Y, .int .i64 b_W, .int .i64 b_H] 0]] 0]) (AEnds C_ref01_SameRects true Try.f81 Post) = g_allS_e a0 b_X b_Y b_W b_H (fun r0 => Post (.new .rect r0)) (fun t1_0_0_0 t1_0_0_1 t1_0_0_2 t1_0_0_3 t7 t8 t9 l21 => iter (exec C_ref01_SameRects Try.f81.ntmps M_allS F 0 (cL (cB (cS (cF (cS (cS (bo Try.f81)))))))) (M_allS 0) F 0 (st_allS_0 t1_0_0_0 t1_0_0_1 t1_0_0_2 t1_0_0_3 t7 t8 t9 l21) (k_allS_0 F Post)) := by kernel_rfl
theorem loop_allS_0 (F : Nat) (K : AEx → ASt UU → Prop) : ∀ (n r : Nat) (t1_0_0_0 : Int) (t1_0_0_1 : Int) (t1_0_0_2 : Int) (t1_0_0_3 : Int) (t7 : List Rect) (t8 : Int) (t9 : Int) (l21 : List Rect), iter (exec C_ref01_SameRects Try.f81.ntmps M_allS F 0 (cL (cB (cS (cF (cS (cS (bo Try.f81)))))))) (M_allS 0) n r (st_allS_0 t1_0_0_0 t1_0_0_1 t1_0_0_2 t1_0_0_3 t7 t8 t9 l21) K = w_allS_0 F  (fun t1_0_0_0 t1_0_0_1 t1_0_0_2 t1_0_0_3 t7 t8 t9 l21 => K (.exit 0) (st_allS_0 t1_0_0_0 t1_0_0_1 t1_0_0_2 t1_0_0_3 t7 t8 t9 l21)) n t1_0_0_0 t1_0_0_1 t1_0_0_2 t1_0_0_3 t7 t8 t9 l21 := by
  intro n
  induction n with
  | zero => intros; rfl
  | succ n ih =>
    intro r t1_0_0_0 t1_0_0_1 t1_0_0_2 t1_0_0_3 t7 t8 t9 l21
    have e : (fun t1_0_0_0 t1_0_0_1 t1_0_0_2 t1_0_0_3 t7 t8 t9 l21 => iter (exec C_ref01_SameRects Try.f81.ntmps M_allS F 0 (cL (cB (cS (cF (cS (cS (bo Try.f81)))))))) (M_allS 0) n (r + 1) (st_allS_0 t1_0_0_0 t1_0_0_1 t1_0_0_2 t1_0_0_3 t7 t8 t9 l21) K) = w_allS_0 F  (fun t1_0_0_0 t1_0_0_1 t1_0_0_2 t1_0_0_3 t7 t8 t9 l21 => K (.exit 0) (st_allS_0 t1_0_0_0 t1_0_0_1 t1_0_0_2 t1_0_0_3 t7 t8 t9 l21)) n := by
      funext t1_0_0_0 t1_0_0_1 t1_0_0_2 t1_0_0_3 t7 t8 t9 l21
      exact ih (r + 1) t1_0_0_0 t1_0_0_1 t1_0_0_2 t1_0_0_3 t7 t8 t9 l21
    rw [step_allS_0, e]
    rfl
theorem nl_allS_0 (F : Nat) (Post : AVal UU → Prop) (t1_0_0_0 : Int) (t1_0_0_1 : Int) (t1_0_0_2 : Int) (t1_0_0_3 : Int) (t7 : List Rect) (t8 : Int) (t9 : Int) (l21 : List Rect) : iter (exec C_ref01_SameRects Try.f81.ntmps M_allS F 0 (cL (cB (cS (cF (cS (cS (bo Try.f81)))))))) (M_allS 0) F 0 (st_allS_0 t1_0_0_0 t1_0_0_1 t1_0_0_2 t1_0_0_3 t7 t8 t9 l21) (k_allS_0 F Post) = n_allS_0 F (fun r0 => Post (.new .rect r0)) t1_0_0_0 t1_0_0_1 t1_0_0_2 t1_0_0_3 t7 t8 t9 l21 := by
  rw [loop_allS_0]
  have h0 : (fun t1_0_0_0 t1_0_0_1 t1_0_0_2 t1_0_0_3 t7 t8 t9 l21 => k_allS_0 F Post (.exit 0) (st_allS_0 t1_0_0_0 t1_0_0_1 t1_0_0_2 t1_0_0_3 t7 t8 t9 l21)) = (fun t1_0_0_0 t1_0_0_1 t1_0_0_2 t1_0_0_3 t7 t8 t9 l21 => g_allS_c0_0 (fun r0 => Post (.new .rect r0)) t1_0_0_0 t1_0_0_1 t1_0_0_2 t1_0_0_3 t7 t8 t9 l21) := by
    funext t1_0_0_0 t1_0_0_1 t1_0_0_2 t1_0_0_3 t7 t8 t9 l21
    rw [cont_allS_0_0]
  rw [h0]
  rfl
theorem exec_allS (F : Nat) (Post : AVal UU → Prop) (a0 : List Rect) (b_X : Int) (b_Y : Int) (b_W : Int) (b_H : Int) : exec C_ref01_SameRects Try.f81.ntmps M_allS F 0 (bo Try.f81) (initSt [.sl .rect a0, .ref [.fn 59 [.ref [.int .i64 b_X, .int .i64 b_Y, .int .i64 b_W, .int .i64 b_H] 0]] 0]) (AEnds C_ref01_SameRects true Try.f81 Post) = w_allS F a0 b_X b_Y b_W b_H (fun r0 => Post (.new .rect r0)) := by
  rw [entry_allS]
  have e0 : (fun t1_0_0_0 t1_0_0_1 t1_0_0_2 t1_0_0_3 t7 t8 t9 l21 => iter (exec C_ref01_SameRects Try.f81.ntmps M_allS F 0 (cL (cB (cS (cF (cS (cS (bo Try.f81)))))))) (M_allS 0) F 0 (st_allS_0 t1_0_0_0 t1_0_0_1 t1_0_0_2 t1_0_0_3 t7 t8 t9 l21) (k_allS_0 F Post)) = (n_allS_0 F (fun r0 => Post (.new .rect r0))) := by
    funext t1_0_0_0 t1_0_0_1 t1_0_0_2 t1_0_0_3 t7 t8 t9 l21
    exact nl_allS_0 F Post t1_0_0_0 t1_0_0_1 t1_0_0_2 t1_0_0_3 t7 t8 t9 l21
  rw [e0]
  rfl
def k_allQ_0 (F : Nat) (Post : AVal UU → Prop) : AEx → ASt UU → Prop := kBlock 0 (kSeq C_ref01_SameRects Try.f81.ntmps M_allQ F 0 (cS (cS (cS (bo Try.f81)))) (AEnds C_ref01_SameRects true Try.f81 Post))
set_option maxRecDepth 100000 in
theorem step_allQ_0 (F n r : Nat) (K : AEx → ASt UU → Prop) (t7 : List Rect) (t8 : Int) (t9 : Int) (l21 : List Rect) : iter (exec C_ref01_SameRects Try.f81.ntmps M_allQ F 0 (cL (cB (cS (cF (cS (cS (bo Try.f81)))))))) (M_allQ 0) (n + 1) r (st_allQ_0 t7 t8 t9 l21) K = g_allQ_s0 (fun t7 t8 t9 l21 => iter (exec C_ref01_SameRects Try.f81.ntmps M_allQ F 0 (cL (cB (cS (cF (cS (cS (bo Try.f81)))))))) (M_allQ 0) n (r + 1) (st_allQ_0 t7 t8 t9 l21) K) (fun t7 t8 t9 l21 => K (.exit 0) (st_allQ_0 t7 t8 t9 l21)) t7 t8 t9 l21 := by kernel_rfl
set_option maxRecDepth 100000 in
theorem cont_allQ_0_0 (F : Nat) (Post : AVal UU → Prop) (t7 : List Rect) (t8 : Int) (t9 : Int) (l21 : List Rect) : k_allQ_0 F Post (.exit 0) (st_allQ_0 t7 t8 t9 l21) = g_allQ_c0_0 (fun r0 => Post (.new .rect r0)) t7 t8 t9 l21 := by kernel_rfl
set_option maxRecDepth 100000 in
theorem entry_allQ (F : Nat) (Post : AVal UU → Prop) (a0 : List Rect) : exec C_ref01_SameRects Try.f81.ntmps M_allQ F 0 (bo Try.f81) (initSt [.sl .rect a0, .ref [.fn 63 []] 0]) (AEnds C_ref01_SameRects true Try.f81 Post) = g_allQ_e a0 (fun r0 => Post (.new .rect r0)) (fun t7 t8 t9 l21 => iter (exec C_ref01_SameRects Try.f81.ntmps M_allQ F 0 (cL (cB (cS (cF (cS (cS (bo Try.f81)))))))) (M_allQ 0) F 0 (st_allQ_0 t7 t8 t9 l21) (k_allQ_0 F Post)) := by kernel_rfl
theorem loop_allQ_0 (F : Nat) (K : AEx → ASt UU → Prop) : ∀ (n r : Nat) (t7 : List Rect) (t8 : Int) (t9 : Int) (l21 : List Rect), iter (exec C_ref01_SameRects Try.f81.ntmps M_allQ F 0 (cL (cB (cS (cF (cS (cS (bo Try.f81)))))))) (M_allQ 0) n r (st_allQ_0 t7 t8 t9 l21) K = w_allQ_0 F  (fun t7 t8 t9 l21 => K (.exit 0) (st_allQ_0 t7 t8 t9 l21)) n t7 t8 t9 l21 := by
  intro n
  induction n with
  | zero => intros; rfl
  | succ n ih =>
    intro r t7 t8 t9 l21
    have e : (fun t7 t8 t9 l21 => iter (exec C_ref01_SameRects Try.f81.ntmps M_allQ F 0 (cL (cB (cS (cF (cS (cS (bo Try.f81)))))))) (M_allQ 0) n (r + 1) (st_allQ_0 t7 t8 t9 l21) K) = w_allQ_0 F  (fun t7 t8 t9 l21 => K (.exit 0) (st_allQ_0 t7 t8 t9 l21)) n := by
      funext t7 t8 t9 l21
      exact ih (r + 1) t7 t8 t9 l21
    rw [step_allQ_0, e]
    rfl
theorem nl_allQ_0 (F : Nat) (Post : AVal UU → Prop) (t7 : List Rect) (t8 : Int) (t9 : Int) (l21 : List Rect) : iter (exec C_ref01_SameRects Try.f81.ntmps M_allQ F 0 (cL (cB (cS (cF (cS (cS (bo Try.f81)))))))) (M_allQ 0) F 0 (st_allQ_0 t7 t8 t9 l21) (k_allQ_0 F Post) = n_allQ_0 F (fun r0 => Post (.new .rect r0)) t7 t8 t9 l21 := by
  rw [loop_allQ_0]
  have h0 : (fun t7 t8 t9 l21 => k_allQ_0 F Post (.exit 0) (st_allQ_0 t7 t8 t9 l21)) = (fun t7 t8 t9 l21 => g_allQ_c0_0 (fun r0 => Post (.new .rect r0)) t7 t8 t9 l21) := by
    funext t7 t8 t9 l21
    rw [cont_allQ_0_0]
  rw [h0]
  rfl
theorem exec_allQ (F : Nat) (Post : AVal UU → Prop) (a0 : List Rect) : exec C_ref01_SameRects Try.f81.ntmps M_allQ F 0 (bo Try.f81) (initSt [.sl .rect a0, .ref [.fn 63 []] 0]) (AEnds C_ref01_SameRects true Try.f81 Post) = w_allQ F a0 (fun r0 => Post (.new .rect r0)) := by
  rw [entry_allQ]
  have e0 : (fun t7 t8 t9 l21 => iter (exec C_ref01_SameRects Try.f81.ntmps M_allQ F 0 (cL (cB (cS (cF (cS (cS (bo Try.f81)))))))) (M_allQ 0) F 0 (st_allQ_0 t7 t8 t9 l21) (k_allQ_0 F Post)) = (n_allQ_0 F (fun r0 => Post (.new .rect r0))) := by
    funext t7 t8 t9 l21
    exact nl_allQ_0 F Post t7 t8 t9 l21
  rw [e0]
  rfl
def m_allS : Model UU
  | [.sl .rect a0, .ref [.fn 59 [.ref [.int .i64 b_X, .int .i64 b_Y, .int .i64 b_W, .int .i64 b_H] 0]] 0] => some ([pre_allS a0 b_X b_Y b_W b_H], .new .rect (sp_allS a0 b_X b_Y b_W b_H))
  | [.sl .rect a0, .ref [.fn 63 []] 0] => some ([pre_allQ a0], .new .rect (sp_allQ a0))
  | _ => none
def C_allS : Cfg UU := C_ref01_SameRects.add 81 m_allS
theorem s_allS : SumOK C_allS := by
  refine s_ref01_SameRects.addD mixed (fn := Try.f81) (c := bo Try.f81) Try.func81 (by kernel_rfl) (by kernel_rfl) ?_
  intro xs cs r h hc
  unfold m_allS at h
  split at h
  · rename_i a0 b_X b_Y b_W b_H
    cases h
    obtain ⟨F, hF⟩ := ok_allS a0 b_X b_Y b_W b_H hc
    refine ⟨by kernel_rfl, M_allS, F, true, ⟨?_⟩⟩
    rw [exec_allS]
    refine hF _ ?_
    rfl
  · rename_i a0
    cases h
    obtain ⟨F, hF⟩ := ok_allQ a0 hc
    refine ⟨by kernel_rfl, M_allQ, F, true, ⟨?_⟩⟩
    rw [exec_allQ]
    refine hF _ ?_
    rfl
  · cases h
def k_ref03_move_point_0 (F : Nat) (Post : AVal UU → Prop) : AEx → ASt UU → Prop := kBlock 0 (kSeq C_allS Try.f82.ntmps M_ref03_move_point F 0 (cS (cS (bo Try.f82))) (AEnds C_allS false Try.f82 Post))
set_option maxRecDepth 100000 in
theorem step_ref03_move_point_0 (F n r : Nat) (K : AEx → ASt UU → Prop) (t1 : Int) (t2 : Int) (t8 : Int) (c3_0 : Int) (c3_1 : Int) (c3_2 : Int) : iter (exec C_allS Try.f82.ntmps M_ref03_move_point F 0 (cL (cB (cS (cF (cS (bo Try.f82))))))) (M_ref03_move_point 0) (n + 1) r (st_ref03_move_point_0 t1 t2 t8 c3_0 c3_1 c3_2) K = g_ref03_move_point_s0 (fun t1 t2 t8 c3_0 c3_1 c3_2 => iter (exec C_allS Try.f82.ntmps M_ref03_move_point F 0 (cL (cB (cS (cF (cS (bo Try.f82))))))) (M_ref03_move_point 0) n (r + 1) (st_ref03_move_point_0 t1 t2 t8 c3_0 c3_1 c3_2) K) (fun t1 t2 t8 c3_0 c3_1 c3_2 => K (.exit 0) (st_ref03_move_point_0 t1 t2 t8 c3_0 c3_1 c3_2)) t1 t2 t8 c3_0 c3_1 c3_2 := by kernel_rfl
set_option maxRecDepth 100000 in
theorem cont_ref03_move_point_0_0 (F : Nat) (Post : AVal UU → Prop) (t1 : Int) (t2 : Int) (t8 : Int) (c3_0 : Int) (c3_1 : Int) (c3_2 : Int) : k_ref03_move_point_0 F Post (.exit 0) (st_ref03_move_point_0 t1 t2 t8 c3_0 c3_1 c3_2) = g_ref03_move_point_c0_0 (fun r0 r1 => Post (.tup [.int .i64 r0, .int .i64 r1])) t1 t2 t8 c3_0 c3_1 c3_2 := by kernel_rfl
set_option maxRecDepth 100000 in
theorem entry_ref03_move_point (F : Nat) (Post : AVal UU → Prop) (a0_turns : Int) (a0_x : Int) (a0_y : Int) (a1 : Int) (a2 : Int) : exec C_allS Try.f82.ntmps M_ref03_move_point F 0 (bo Try.f82) (initSt [.agg [.int .i64 a0_turns, .int .i64 a0_x, .int .i64 a0_y], .int .i64 a1, .int .i64 a2]) (AEnds C_allS false Try.f82 Post) = g_ref03_move_point_e a0_turns a0_x a0_y a1 a2 (fun r0 r1 => Post (.tup [.int .i64 r0, .int .i64 r1])) (fun t1 t2 t8 c3_0 c3_1 c3_2 => iter (exec C_allS Try.f82.ntmps M_ref03_move_point F 0 (cL (cB (cS (cF (cS (bo Try.f82))))))) (M_ref03_move_point 0) F 0 (st_ref03_move_point_0 t1 t2 t8 c3_0 c3_1 c3_2) (k_ref03_move_point_0 F Post)) := by kernel_rfl
theorem loop_ref03_move_point_0 (F : Nat) (K : AEx → ASt UU → Prop) : ∀ (n r : Nat) (t1 : Int) (t2 : Int) (t8 : Int) (c3_0 : Int) (c3_1 : Int) (c3_2 : Int), iter (exec C_allS Try.f82.ntmps M_ref03_move_point F 0 (cL (cB (cS (cF (cS (bo Try.f82))))))) (M_ref03_move_point 0) n r (st_ref03_move_point_0 t1 t2 t8 c3_0 c3_1 c3_2) K = w_ref03_move_point_0 F  (fun t1 t2 t8 c3_0 c3_1 c3_2 => K (.exit 0) (st_ref03_move_point_0 t1 t2 t8 c3_0 c3_1 c3_2)) n t1 t2 t8 c3_0 c3_1 c3_2 := by
  intro n
  induction n with
  | zero => intros; rfl
  | succ n ih =>
    intro r t1 t2 t8 c3_0 c3_1 c3_2
    have e : (fun t1 t2 t8 c3_0 c3_1 c3_2 => iter (exec C_allS Try.f82.ntmps M_ref03_move_point F 0 (cL (cB (cS (cF (cS (bo Try.f82))))))) (M_ref03_move_point 0) n (r + 1) (st_ref03_move_point_0 t1 t2 t8 c3_0 c3_1 c3_2) K) = w_ref03_move_point_0 F  (fun t1 t2 t8 c3_0 c3_1 c3_2 => K (.exit 0) (st_ref03_move_point_0 t1 t2 t8 c3_0 c3_1 c3_2)) n := by
      funext t1 t2 t8 c3_0 c3_1 c3_2
      exact ih (r + 1) t1 t2 t8 c3_0 c3_1 c3_2
    rw [step_ref03_move_point_0, e]
    rfl
theorem nl_ref03_move_point_0 (F : Nat) (Post : AVal UU → Prop) (t1 : Int) (t2 : Int) (t8 : Int) (c3_0 : Int) (c3_1 : Int) (c3_2 : Int) : iter (exec C_allS Try.f82.ntmps M_ref03_move_point F 0 (cL (cB (cS (cF (cS (bo Try.f82))))))) (M_ref03_move_point 0) F 0 (st_ref03_move_point_0 t1 t2 t8 c3_0 c3_1 c3_2) (k_ref03_move_point_0 F Post) = n_ref03_move_point_0 F (fun r0 r1 => Post (.tup [.int .i64 r0, .int .i64 r1])) t1 t2 t8 c3_0 c3_1 c3_2 := by
  rw [loop_ref03_move_point_0]
  have h0 : (fun t1 t2 t8 c3_0 c3_1 c3_2 => k_ref03_move_point_0 F Post (.exit 0) (st_ref03_move_point_0 t1 t2 t8 c3_0 c3_1 c3_2)) = (fun t1 t2 t8 c3_0 c3_1 c3_2 => g_ref03_move_point_c0_0 (fun r0 r1 => Post (.tup [.int .i64 r0, .int .i64 r1])) t1 t2 t8 c3_0 c3_1 c3_2) := by
    funext t1 t2 t8 c3_0 c3_1 c3_2
    rw [cont_ref03_move_point_0_0]
  rw [h0]
  rfl
theorem exec_ref03_move_point (F : Nat) (Post : AVal UU → Prop) (a0_turns : Int) (a0_x : Int) (a0_y : Int) (a1 : Int) (a2 : Int) : exec C_allS Try.f82.ntmps M_ref03_move_point F 0 (bo Try.f82) (initSt [.agg [.int .i64 a0_turns, .int .i64 a0_x, .int .i64 a0_y], .int .i64 a1, .int .i64 a2]) (AEnds C_allS false Try.f82 Post) = w_ref03_move_point F a0_turns a0_x a0_y a1 a2 (fun r0 r1 => Post (.tup [.int .i64 r0, .int .i64 r1])) := by
  rw [entry_ref03_move_point]
  have e0 : (fun t1 t2 t8 c3_0 c3_1 c3_2 => iter (exec C_allS Try.f82.ntmps M_ref03_move_point F 0 (cL (cB (cS (cF (cS (bo Try.f82))))))) (M_ref03_move_point 0) F 0 (st_ref03_move_point_0 t1 t2 t8 c3_0 c3_1 c3_2) (k_ref03_move_point_0 F Post)) = (n_ref03_move_point_0 F (fun r0 r1 => Post (.tup [.int .i64 r0, .int .i64 r1]))) := by
    funext t1 t2 t8 c3_0 c3_1 c3_2
    exact nl_ref03_move_point_0 F Post t1 t2 t8 c3_0 c3_1 c3_2
  rw [e0]
  rfl
def m_ref03_move_point : Model UU
  | [.agg [.int .i64 a0_turns, .int .i64 a0_x, .int .i64 a0_y], .int .i64 a1, .int .i64 a2] => some ([pre_ref03_move_point a0_turns a0_x a0_y a1 a2], .tup [.int .i64 ((sp_ref03_move_point a0_turns a0_x a0_y a1 a2).1), .int .i64 ((sp_ref03_move_point a0_turns a0_x a0_y a1 a2).2)])
  | _ => none
def C_ref03_move_point : Cfg UU := C_allS.add 82 m_ref03_move_point
theorem s_ref03_move_point : SumOK C_ref03_move_point := by
  refine s_allS.addD mixed (fn := Try.f82) (c := bo Try.f82) Try.func82 (by kernel_rfl) (by kernel_rfl) ?_
  intro xs cs r h hc
  unfold m_ref03_move_point at h
  split at h
  · rename_i a0_turns a0_x a0_y a1 a2
    cases h
    obtain ⟨F, hF⟩ := ok_ref03_move_point a0_turns a0_x a0_y a1 a2 hc
    refine ⟨by kernel_rfl, M_ref03_move_point, F, false, ⟨?_⟩⟩
    rw [exec_ref03_move_point]
    refine hF _ ?_
    rfl
  · cases h
end
end Go.Proofs.Ytohecfbnmmgimaa
