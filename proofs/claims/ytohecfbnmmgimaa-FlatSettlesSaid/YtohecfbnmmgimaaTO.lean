/- That the code says what the printed pieces say, by the kernel; printed by gen.py. Conditions: none. -/
import Derived.Test.YtohecfbnmmgimaaHO
import Derived.Test.YtohecfbnmmgimaaTN
namespace Go.Proofs.Ytohecfbnmmgimaa
open Go.Vm Go.RowKit
set_option linter.unusedVariables false
noncomputable section
set_option maxRecDepth 100000 in
theorem entry_flat_settled (F : Nat) (Post : AVal UU → Prop) (a0_Rects : List Rect) (a0_Cuts : List Rect) (a0_Forms : List Rect) (a0_Bends : List Bend) : exec C_ref03_move_flat Try.f32.ntmps M_flat_settled F 0 (bo Try.f32) (initSt [.agg [.sl .rect a0_Rects, .sl .rect a0_Cuts, .sl .rect a0_Forms, .sl .bend a0_Bends]]) (AEnds C_ref03_move_flat true Try.f32 Post) = g_flat_settled_e a0_Rects a0_Cuts a0_Forms a0_Bends (fun r0_Rects r0_Cuts r0_Forms r0_Bends r1 => Post (.tup [.agg [.new .rect r0_Rects, .new .rect r0_Cuts, .new .rect r0_Forms, .new .bend r0_Bends], .int .i64 r1])) := by kernel_rfl
theorem exec_flat_settled (F : Nat) (Post : AVal UU → Prop) (a0_Rects : List Rect) (a0_Cuts : List Rect) (a0_Forms : List Rect) (a0_Bends : List Bend) : exec C_ref03_move_flat Try.f32.ntmps M_flat_settled F 0 (bo Try.f32) (initSt [.agg [.sl .rect a0_Rects, .sl .rect a0_Cuts, .sl .rect a0_Forms, .sl .bend a0_Bends]]) (AEnds C_ref03_move_flat true Try.f32 Post) = w_flat_settled F a0_Rects a0_Cuts a0_Forms a0_Bends (fun r0_Rects r0_Cuts r0_Forms r0_Bends r1 => Post (.tup [.agg [.new .rect r0_Rects, .new .rect r0_Cuts, .new .rect r0_Forms, .new .bend r0_Bends], .int .i64 r1])) := by
  rw [entry_flat_settled]
  rfl
def m_flat_settled : Model UU
  | [.agg [.sl .rect a0_Rects, .sl .rect a0_Cuts, .sl .rect a0_Forms, .sl .bend a0_Bends]] => some ([pre_flat_settled a0_Rects a0_Cuts a0_Forms a0_Bends], .tup [.agg [.new .rect ((sp_flat_settled a0_Rects a0_Cuts a0_Forms a0_Bends).1), .new .rect ((sp_flat_settled a0_Rects a0_Cuts a0_Forms a0_Bends).2.1), .new .rect ((sp_flat_settled a0_Rects a0_Cuts a0_Forms a0_Bends).2.2.1), .new .bend ((sp_flat_settled a0_Rects a0_Cuts a0_Forms a0_Bends).2.2.2.1)], .int .i64 ((sp_flat_settled a0_Rects a0_Cuts a0_Forms a0_Bends).2.2.2.2)])
  | _ => none
def C_flat_settled : Cfg UU := C_ref03_move_flat.add 32 m_flat_settled
theorem s_flat_settled : SumOK C_flat_settled := by
  refine s_ref03_move_flat.addD mixed (fn := Try.f32) (c := bo Try.f32) Try.func32 (by kernel_rfl) (by kernel_rfl) ?_
  intro xs cs r h hc
  unfold m_flat_settled at h
  split at h
  · rename_i a0_Rects a0_Cuts a0_Forms a0_Bends
    cases h
    obtain ⟨F, hF⟩ := ok_flat_settled a0_Rects a0_Cuts a0_Forms a0_Bends hc
    refine ⟨by kernel_rfl, M_flat_settled, F, true, ⟨?_⟩⟩
    rw [exec_flat_settled]
    refine hF _ ?_
    rfl
  · cases h
set_option maxRecDepth 100000 in
theorem entry_flat_quarter (F : Nat) (Post : AVal UU → Prop) (a0_Rects : List Rect) (a0_Cuts : List Rect) (a0_Forms : List Rect) (a0_Bends : List Bend) : exec C_flat_settled Try.f36.ntmps M_flat_quarter F 0 (bo Try.f36) (initSt [.agg [.sl .rect a0_Rects, .sl .rect a0_Cuts, .sl .rect a0_Forms, .sl .bend a0_Bends]]) (AEnds C_flat_settled true Try.f36 Post) = g_flat_quarter_e a0_Rects a0_Cuts a0_Forms a0_Bends (fun r0_Rects r0_Cuts r0_Forms r0_Bends => Post (.agg [.new .rect r0_Rects, .new .rect r0_Cuts, .new .rect r0_Forms, .new .bend r0_Bends])) := by kernel_rfl
theorem exec_flat_quarter (F : Nat) (Post : AVal UU → Prop) (a0_Rects : List Rect) (a0_Cuts : List Rect) (a0_Forms : List Rect) (a0_Bends : List Bend) : exec C_flat_settled Try.f36.ntmps M_flat_quarter F 0 (bo Try.f36) (initSt [.agg [.sl .rect a0_Rects, .sl .rect a0_Cuts, .sl .rect a0_Forms, .sl .bend a0_Bends]]) (AEnds C_flat_settled true Try.f36 Post) = w_flat_quarter F a0_Rects a0_Cuts a0_Forms a0_Bends (fun r0_Rects r0_Cuts r0_Forms r0_Bends => Post (.agg [.new .rect r0_Rects, .new .rect r0_Cuts, .new .rect r0_Forms, .new .bend r0_Bends])) := by
  rw [entry_flat_quarter]
  rfl
def m_flat_quarter : Model UU
  | [.agg [.sl .rect a0_Rects, .sl .rect a0_Cuts, .sl .rect a0_Forms, .sl .bend a0_Bends]] => some ([pre_flat_quarter a0_Rects a0_Cuts a0_Forms a0_Bends], .agg [.new .rect ((sp_flat_quarter a0_Rects a0_Cuts a0_Forms a0_Bends).1), .new .rect ((sp_flat_quarter a0_Rects a0_Cuts a0_Forms a0_Bends).2.1), .new .rect ((sp_flat_quarter a0_Rects a0_Cuts a0_Forms a0_Bends).2.2.1), .new .bend ((sp_flat_quarter a0_Rects a0_Cuts a0_Forms a0_Bends).2.2.2)])
  | _ => none
def C_flat_quarter : Cfg UU := C_flat_settled.add 36 m_flat_quarter
theorem s_flat_quarter : SumOK C_flat_quarter := by
  refine s_flat_settled.addD mixed (fn := Try.f36) (c := bo Try.f36) Try.func36 (by kernel_rfl) (by kernel_rfl) ?_
  intro xs cs r h hc
  unfold m_flat_quarter at h
  split at h
  · rename_i a0_Rects a0_Cuts a0_Forms a0_Bends
    cases h
    obtain ⟨F, hF⟩ := ok_flat_quarter a0_Rects a0_Cuts a0_Forms a0_Bends hc
    refine ⟨by kernel_rfl, M_flat_quarter, F, true, ⟨?_⟩⟩
    rw [exec_flat_quarter]
    refine hF _ ?_
    rfl
  · cases h
set_option maxRecDepth 100000 in
theorem entry_flat_Bounds (F : Nat) (Post : AVal UU → Prop) (a0_Rects : List Rect) (a0_Cuts : List Rect) (a0_Forms : List Rect) (a0_Bends : List Bend) : exec C_flat_quarter Try.f11.ntmps M_flat_Bounds F 0 (bo Try.f11) (initSt [.agg [.sl .rect a0_Rects, .sl .rect a0_Cuts, .sl .rect a0_Forms, .sl .bend a0_Bends]]) (AEnds C_flat_quarter false Try.f11 Post) = g_flat_Bounds_e a0_Rects a0_Cuts a0_Forms a0_Bends (fun r0_X r0_Y r0_W r0_H r1 => Post (.tup [.agg [.int .i64 r0_X, .int .i64 r0_Y, .int .i64 r0_W, .int .i64 r0_H], .int .i64 r1])) := by kernel_rfl
theorem exec_flat_Bounds (F : Nat) (Post : AVal UU → Prop) (a0_Rects : List Rect) (a0_Cuts : List Rect) (a0_Forms : List Rect) (a0_Bends : List Bend) : exec C_flat_quarter Try.f11.ntmps M_flat_Bounds F 0 (bo Try.f11) (initSt [.agg [.sl .rect a0_Rects, .sl .rect a0_Cuts, .sl .rect a0_Forms, .sl .bend a0_Bends]]) (AEnds C_flat_quarter false Try.f11 Post) = w_flat_Bounds F a0_Rects a0_Cuts a0_Forms a0_Bends (fun r0_X r0_Y r0_W r0_H r1 => Post (.tup [.agg [.int .i64 r0_X, .int .i64 r0_Y, .int .i64 r0_W, .int .i64 r0_H], .int .i64 r1])) := by
  rw [entry_flat_Bounds]
  rfl
def m_flat_Bounds : Model UU
  | [.agg [.sl .rect a0_Rects, .sl .rect a0_Cuts, .sl .rect a0_Forms, .sl .bend a0_Bends]] => some ([pre_flat_Bounds a0_Rects a0_Cuts a0_Forms a0_Bends], .tup [.agg [.int .i64 ((sp_flat_Bounds a0_Rects a0_Cuts a0_Forms a0_Bends).1), .int .i64 ((sp_flat_Bounds a0_Rects a0_Cuts a0_Forms a0_Bends).2.1), .int .i64 ((sp_flat_Bounds a0_Rects a0_Cuts a0_Forms a0_Bends).2.2.1), .int .i64 ((sp_flat_Bounds a0_Rects a0_Cuts a0_Forms a0_Bends).2.2.2.1)], .int .i64 ((sp_flat_Bounds a0_Rects a0_Cuts a0_Forms a0_Bends).2.2.2.2)])
  | _ => none
def C_flat_Bounds : Cfg UU := C_flat_quarter.add 11 m_flat_Bounds
theorem s_flat_Bounds : SumOK C_flat_Bounds := by
  refine s_flat_quarter.addD mixed (fn := Try.f11) (c := bo Try.f11) Try.func11 (by kernel_rfl) (by kernel_rfl) ?_
  intro xs cs r h hc
  unfold m_flat_Bounds at h
  split at h
  · rename_i a0_Rects a0_Cuts a0_Forms a0_Bends
    cases h
    obtain ⟨F, hF⟩ := ok_flat_Bounds a0_Rects a0_Cuts a0_Forms a0_Bends hc
    refine ⟨by kernel_rfl, M_flat_Bounds, F, false, ⟨?_⟩⟩
    rw [exec_flat_Bounds]
    refine hF _ ?_
    rfl
  · cases h
set_option maxRecDepth 100000 in
theorem entry_ref03_Bounds (F : Nat) (Post : AVal UU → Prop) (a0_Rects : List Rect) (a0_Cuts : List Rect) (a0_Forms : List Rect) (a0_Bends : List Bend) : exec C_flat_Bounds Try.f12.ntmps M_ref03_Bounds F 0 (bo Try.f12) (initSt [.agg [.sl .rect a0_Rects, .sl .rect a0_Cuts, .sl .rect a0_Forms, .sl .bend a0_Bends]]) (AEnds C_flat_Bounds false Try.f12 Post) = g_ref03_Bounds_e a0_Rects a0_Cuts a0_Forms a0_Bends (fun r0_X r0_Y r0_W r0_H r1 => Post (.tup [.agg [.int .i64 r0_X, .int .i64 r0_Y, .int .i64 r0_W, .int .i64 r0_H], .int .i64 r1])) := by kernel_rfl
theorem exec_ref03_Bounds (F : Nat) (Post : AVal UU → Prop) (a0_Rects : List Rect) (a0_Cuts : List Rect) (a0_Forms : List Rect) (a0_Bends : List Bend) : exec C_flat_Bounds Try.f12.ntmps M_ref03_Bounds F 0 (bo Try.f12) (initSt [.agg [.sl .rect a0_Rects, .sl .rect a0_Cuts, .sl .rect a0_Forms, .sl .bend a0_Bends]]) (AEnds C_flat_Bounds false Try.f12 Post) = w_ref03_Bounds F a0_Rects a0_Cuts a0_Forms a0_Bends (fun r0_X r0_Y r0_W r0_H r1 => Post (.tup [.agg [.int .i64 r0_X, .int .i64 r0_Y, .int .i64 r0_W, .int .i64 r0_H], .int .i64 r1])) := by
  rw [entry_ref03_Bounds]
  rfl
def m_ref03_Bounds : Model UU
  | [.agg [.sl .rect a0_Rects, .sl .rect a0_Cuts, .sl .rect a0_Forms, .sl .bend a0_Bends]] => some ([pre_ref03_Bounds a0_Rects a0_Cuts a0_Forms a0_Bends], .tup [.agg [.int .i64 ((sp_ref03_Bounds a0_Rects a0_Cuts a0_Forms a0_Bends).1), .int .i64 ((sp_ref03_Bounds a0_Rects a0_Cuts a0_Forms a0_Bends).2.1), .int .i64 ((sp_ref03_Bounds a0_Rects a0_Cuts a0_Forms a0_Bends).2.2.1), .int .i64 ((sp_ref03_Bounds a0_Rects a0_Cuts a0_Forms a0_Bends).2.2.2.1)], .int .i64 ((sp_ref03_Bounds a0_Rects a0_Cuts a0_Forms a0_Bends).2.2.2.2)])
  | _ => none
def C_ref03_Bounds : Cfg UU := C_flat_Bounds.add 12 m_ref03_Bounds
theorem s_ref03_Bounds : SumOK C_ref03_Bounds := by
  refine s_flat_Bounds.addD mixed (fn := Try.f12) (c := bo Try.f12) Try.func12 (by kernel_rfl) (by kernel_rfl) ?_
  intro xs cs r h hc
  unfold m_ref03_Bounds at h
  split at h
  · rename_i a0_Rects a0_Cuts a0_Forms a0_Bends
    cases h
    obtain ⟨F, hF⟩ := ok_ref03_Bounds a0_Rects a0_Cuts a0_Forms a0_Bends hc
    refine ⟨by kernel_rfl, M_ref03_Bounds, F, false, ⟨?_⟩⟩
    rw [exec_ref03_Bounds]
    refine hF _ ?_
    rfl
  · cases h
set_option maxRecDepth 100000 in
theorem entry_ref03_Quarter (F : Nat) (Post : AVal UU → Prop) (a0_Rects : List Rect) (a0_Cuts : List Rect) (a0_Forms : List Rect) (a0_Bends : List Bend) (a1 : Int) : exec C_ref03_Bounds Try.f14.ntmps M_ref03_Quarter F 0 (bo Try.f14) (initSt [.agg [.sl .rect a0_Rects, .sl .rect a0_Cuts, .sl .rect a0_Forms, .sl .bend a0_Bends], .int .i64 a1]) (AEnds C_ref03_Bounds true Try.f14 Post) = g_ref03_Quarter_e a0_Rects a0_Cuts a0_Forms a0_Bends a1 (fun r0_Rects r0_Cuts r0_Forms r0_Bends r1 => Post (.tup [.agg [.new .rect r0_Rects, .new .rect r0_Cuts, .new .rect r0_Forms, .new .bend r0_Bends], .int .i64 r1])) := by kernel_rfl
theorem exec_ref03_Quarter (F : Nat) (Post : AVal UU → Prop) (a0_Rects : List Rect) (a0_Cuts : List Rect) (a0_Forms : List Rect) (a0_Bends : List Bend) (a1 : Int) : exec C_ref03_Bounds Try.f14.ntmps M_ref03_Quarter F 0 (bo Try.f14) (initSt [.agg [.sl .rect a0_Rects, .sl .rect a0_Cuts, .sl .rect a0_Forms, .sl .bend a0_Bends], .int .i64 a1]) (AEnds C_ref03_Bounds true Try.f14 Post) = w_ref03_Quarter F a0_Rects a0_Cuts a0_Forms a0_Bends a1 (fun r0_Rects r0_Cuts r0_Forms r0_Bends r1 => Post (.tup [.agg [.new .rect r0_Rects, .new .rect r0_Cuts, .new .rect r0_Forms, .new .bend r0_Bends], .int .i64 r1])) := by
  rw [entry_ref03_Quarter]
  rfl
def m_ref03_Quarter : Model UU
  | [.agg [.sl .rect a0_Rects, .sl .rect a0_Cuts, .sl .rect a0_Forms, .sl .bend a0_Bends], .int .i64 a1] => some ([pre_ref03_Quarter a0_Rects a0_Cuts a0_Forms a0_Bends a1], .tup [.agg [.new .rect ((sp_ref03_Quarter a0_Rects a0_Cuts a0_Forms a0_Bends a1).1), .new .rect ((sp_ref03_Quarter a0_Rects a0_Cuts a0_Forms a0_Bends a1).2.1), .new .rect ((sp_ref03_Quarter a0_Rects a0_Cuts a0_Forms a0_Bends a1).2.2.1), .new .bend ((sp_ref03_Quarter a0_Rects a0_Cuts a0_Forms a0_Bends a1).2.2.2.1)], .int .i64 ((sp_ref03_Quarter a0_Rects a0_Cuts a0_Forms a0_Bends a1).2.2.2.2)])
  | _ => none
def C_ref03_Quarter : Cfg UU := C_ref03_Bounds.add 14 m_ref03_Quarter
theorem s_ref03_Quarter : SumOK C_ref03_Quarter := by
  refine s_ref03_Bounds.addD mixed (fn := Try.f14) (c := bo Try.f14) Try.func14 (by kernel_rfl) (by kernel_rfl) ?_
  intro xs cs r h hc
  unfold m_ref03_Quarter at h
  split at h
  · rename_i a0_Rects a0_Cuts a0_Forms a0_Bends a1
    cases h
    obtain ⟨F, hF⟩ := ok_ref03_Quarter a0_Rects a0_Cuts a0_Forms a0_Bends a1 hc
    refine ⟨by kernel_rfl, M_ref03_Quarter, F, true, ⟨?_⟩⟩
    rw [exec_ref03_Quarter]
    refine hF _ ?_
    rfl
  · cases h
set_option maxRecDepth 100000 in
theorem entry_flat_Settle (F : Nat) (Post : AVal UU → Prop) (a0_Rects : List Rect) (a0_Cuts : List Rect) (a0_Forms : List Rect) (a0_Bends : List Bend) : exec C_ref03_Quarter Try.f13.ntmps M_flat_Settle F 0 (bo Try.f13) (initSt [.agg [.sl .rect a0_Rects, .sl .rect a0_Cuts, .sl .rect a0_Forms, .sl .bend a0_Bends]]) (AEnds C_ref03_Quarter true Try.f13 Post) = g_flat_Settle_e a0_Rects a0_Cuts a0_Forms a0_Bends (fun r0_Rects r0_Cuts r0_Forms r0_Bends r1 => Post (.tup [.agg [.new .rect r0_Rects, .new .rect r0_Cuts, .new .rect r0_Forms, .new .bend r0_Bends], .int .i64 r1])) := by kernel_rfl
theorem exec_flat_Settle (F : Nat) (Post : AVal UU → Prop) (a0_Rects : List Rect) (a0_Cuts : List Rect) (a0_Forms : List Rect) (a0_Bends : List Bend) : exec C_ref03_Quarter Try.f13.ntmps M_flat_Settle F 0 (bo Try.f13) (initSt [.agg [.sl .rect a0_Rects, .sl .rect a0_Cuts, .sl .rect a0_Forms, .sl .bend a0_Bends]]) (AEnds C_ref03_Quarter true Try.f13 Post) = w_flat_Settle F a0_Rects a0_Cuts a0_Forms a0_Bends (fun r0_Rects r0_Cuts r0_Forms r0_Bends r1 => Post (.tup [.agg [.new .rect r0_Rects, .new .rect r0_Cuts, .new .rect r0_Forms, .new .bend r0_Bends], .int .i64 r1])) := by
  rw [entry_flat_Settle]
  rfl
def m_flat_Settle : Model UU
  | [.agg [.sl .rect a0_Rects, .sl .rect a0_Cuts, .sl .rect a0_Forms, .sl .bend a0_Bends]] => some ([pre_flat_Settle a0_Rects a0_Cuts a0_Forms a0_Bends], .tup [.agg [.new .rect ((sp_flat_Settle a0_Rects a0_Cuts a0_Forms a0_Bends).1), .new .rect ((sp_flat_Settle a0_Rects a0_Cuts a0_Forms a0_Bends).2.1), .new .rect ((sp_flat_Settle a0_Rects a0_Cuts a0_Forms a0_Bends).2.2.1), .new .bend ((sp_flat_Settle a0_Rects a0_Cuts a0_Forms a0_Bends).2.2.2.1)], .int .i64 ((sp_flat_Settle a0_Rects a0_Cuts a0_Forms a0_Bends).2.2.2.2)])
  | _ => none
def C_flat_Settle : Cfg UU := C_ref03_Quarter.add 13 m_flat_Settle
theorem s_flat_Settle : SumOK C_flat_Settle := by
  refine s_ref03_Quarter.addD mixed (fn := Try.f13) (c := bo Try.f13) Try.func13 (by kernel_rfl) (by kernel_rfl) ?_
  intro xs cs r h hc
  unfold m_flat_Settle at h
  split at h
  · rename_i a0_Rects a0_Cuts a0_Forms a0_Bends
    cases h
    obtain ⟨F, hF⟩ := ok_flat_Settle a0_Rects a0_Cuts a0_Forms a0_Bends hc
    refine ⟨by kernel_rfl, M_flat_Settle, F, true, ⟨?_⟩⟩
    rw [exec_flat_Settle]
    refine hF _ ?_
    rfl
  · cases h
def k_Q0_0 (F : Nat) (Post : AVal UU → Prop) : AEx → ASt UU → Prop := kBlock 0 (kSeq C_flat_Settle Try.f15.ntmps M_Q0 F 0 (cS (cS (cS (cS (bo Try.f15))))) (AEnds C_flat_Settle true Try.f15 Post))
def k_Q0_1 (F : Nat) (Post : AVal UU → Prop) : AEx → ASt UU → Prop := kBlock 2 (kSeq C_flat_Settle Try.f15.ntmps M_Q0 F 0 (cS (cS (cS (cS (cS (bo Try.f15)))))) (AEnds C_flat_Settle true Try.f15 Post))
set_option maxRecDepth 100000 in
theorem step_Q0_0 (F n r : Nat) (K : AEx → ASt UU → Prop) (t1 : Int) (t25 : Int) (t26 : Int) (c2_0 : List Rect) (c2_1 : List Rect) (c2_2 : List Rect) (c2_3 : List Bend) (c7_0 : List Rect) (c7_1 : List Rect) (c7_2 : List Rect) (c7_3 : List Bend) : iter (exec C_flat_Settle Try.f15.ntmps M_Q0 F 0 (cL (cB (cS (cF (cS (cS (cS (bo Try.f15))))))))) (M_Q0 0) (n + 1) r (st_Q0_0 t1 t25 t26 c2_0 c2_1 c2_2 c2_3 c7_0 c7_1 c7_2 c7_3) K = g_Q0_s0 (fun t1 t25 t26 c2_0 c2_1 c2_2 c2_3 c7_0 c7_1 c7_2 c7_3 => iter (exec C_flat_Settle Try.f15.ntmps M_Q0 F 0 (cL (cB (cS (cF (cS (cS (cS (bo Try.f15))))))))) (M_Q0 0) n (r + 1) (st_Q0_0 t1 t25 t26 c2_0 c2_1 c2_2 c2_3 c7_0 c7_1 c7_2 c7_3) K) (fun t1 t25 t26 c2_0 c2_1 c2_2 c2_3 c7_0 c7_1 c7_2 c7_3 => K (.exit 0) (st_Q0_0 t1 t25 t26 c2_0 c2_1 c2_2 c2_3 c7_0 c7_1 c7_2 c7_3)) t1 t25 t26 c2_0 c2_1 c2_2 c2_3 c7_0 c7_1 c7_2 c7_3 := by kernel_rfl
set_option maxRecDepth 100000 in
theorem cont_Q0_0_0 (F : Nat) (Post : AVal UU → Prop) (t1 : Int) (t25 : Int) (t26 : Int) (c2_0 : List Rect) (c2_1 : List Rect) (c2_2 : List Rect) (c2_3 : List Bend) (c7_0 : List Rect) (c7_1 : List Rect) (c7_2 : List Rect) (c7_3 : List Bend) : k_Q0_0 F Post (.exit 0) (st_Q0_0 t1 t25 t26 c2_0 c2_1 c2_2 c2_3 c7_0 c7_1 c7_2 c7_3) = g_Q0_c0_0 (fun r0_Rects r0_Cuts r0_Forms r0_Bends r1 => Post (.tup [.agg [.new .rect r0_Rects, .new .rect r0_Cuts, .new .rect r0_Forms, .new .bend r0_Bends], .int .i64 r1])) t1 t25 t26 c2_0 c2_1 c2_2 c2_3 c7_0 c7_1 c7_2 c7_3 (fun t1 t32 t33 t34 c7_0 c7_1 c7_2 c7_3 => iter (exec C_flat_Settle Try.f15.ntmps M_Q0 F 2 (cL (cB (cS (cF (cS (cS (cS (cS (bo Try.f15)))))))))) (M_Q0 2) F 0 (st_Q0_1 t1 t32 t33 t34 c7_0 c7_1 c7_2 c7_3) (k_Q0_1 F Post)) := by kernel_rfl
set_option maxRecDepth 100000 in
theorem step_Q0_1 (F n r : Nat) (K : AEx → ASt UU → Prop) (t1 : Int) (t32 : List Bend) (t33 : Int) (t34 : Int) (c7_0 : List Rect) (c7_1 : List Rect) (c7_2 : List Rect) (c7_3 : List Bend) : iter (exec C_flat_Settle Try.f15.ntmps M_Q0 F 2 (cL (cB (cS (cF (cS (cS (cS (cS (bo Try.f15)))))))))) (M_Q0 2) (n + 1) r (st_Q0_1 t1 t32 t33 t34 c7_0 c7_1 c7_2 c7_3) K = g_Q0_s1 (fun t1 t32 t33 t34 c7_0 c7_1 c7_2 c7_3 => iter (exec C_flat_Settle Try.f15.ntmps M_Q0 F 2 (cL (cB (cS (cF (cS (cS (cS (cS (bo Try.f15)))))))))) (M_Q0 2) n (r + 1) (st_Q0_1 t1 t32 t33 t34 c7_0 c7_1 c7_2 c7_3) K) (fun t1 t32 t33 t34 c7_0 c7_1 c7_2 c7_3 => K (.exit 2) (st_Q0_1 t1 t32 t33 t34 c7_0 c7_1 c7_2 c7_3)) t1 t32 t33 t34 c7_0 c7_1 c7_2 c7_3 := by kernel_rfl
set_option maxRecDepth 100000 in
theorem cont_Q0_1_0 (F : Nat) (Post : AVal UU → Prop) (t1 : Int) (t32 : List Bend) (t33 : Int) (t34 : Int) (c7_0 : List Rect) (c7_1 : List Rect) (c7_2 : List Rect) (c7_3 : List Bend) : k_Q0_1 F Post (.exit 2) (st_Q0_1 t1 t32 t33 t34 c7_0 c7_1 c7_2 c7_3) = g_Q0_c1_0 (fun r0_Rects r0_Cuts r0_Forms r0_Bends r1 => Post (.tup [.agg [.new .rect r0_Rects, .new .rect r0_Cuts, .new .rect r0_Forms, .new .bend r0_Bends], .int .i64 r1])) t1 t32 t33 t34 c7_0 c7_1 c7_2 c7_3 := by kernel_rfl
set_option maxRecDepth 100000 in
theorem entry_Q0 (F : Nat) (Post : AVal UU → Prop) (a0_Rects : List Rect) (a0_Cuts : List Rect) (a0_Forms : List Rect) (a0_Bends : List Bend) : exec C_flat_Settle Try.f15.ntmps M_Q0 F 0 (bo Try.f15) (initSt [.agg [.sl .rect a0_Rects, .sl .rect a0_Cuts, .sl .rect a0_Forms, .sl .bend a0_Bends], .int .i64 0]) (AEnds C_flat_Settle true Try.f15 Post) = g_Q0_e a0_Rects a0_Cuts a0_Forms a0_Bends (fun r0_Rects r0_Cuts r0_Forms r0_Bends r1 => Post (.tup [.agg [.new .rect r0_Rects, .new .rect r0_Cuts, .new .rect r0_Forms, .new .bend r0_Bends], .int .i64 r1])) (fun t1 t25 t26 c2_0 c2_1 c2_2 c2_3 c7_0 c7_1 c7_2 c7_3 => iter (exec C_flat_Settle Try.f15.ntmps M_Q0 F 0 (cL (cB (cS (cF (cS (cS (cS (bo Try.f15))))))))) (M_Q0 0) F 0 (st_Q0_0 t1 t25 t26 c2_0 c2_1 c2_2 c2_3 c7_0 c7_1 c7_2 c7_3) (k_Q0_0 F Post)) := by kernel_rfl
theorem loop_Q0_1 (F : Nat) (K : AEx → ASt UU → Prop) : ∀ (n r : Nat) (t1 : Int) (t32 : List Bend) (t33 : Int) (t34 : Int) (c7_0 : List Rect) (c7_1 : List Rect) (c7_2 : List Rect) (c7_3 : List Bend), iter (exec C_flat_Settle Try.f15.ntmps M_Q0 F 2 (cL (cB (cS (cF (cS (cS (cS (cS (bo Try.f15)))))))))) (M_Q0 2) n r (st_Q0_1 t1 t32 t33 t34 c7_0 c7_1 c7_2 c7_3) K = w_Q0_1 F  (fun t1 t32 t33 t34 c7_0 c7_1 c7_2 c7_3 => K (.exit 2) (st_Q0_1 t1 t32 t33 t34 c7_0 c7_1 c7_2 c7_3)) n t1 t32 t33 t34 c7_0 c7_1 c7_2 c7_3 := by
  intro n
  induction n with
  | zero => intros; rfl
  | succ n ih =>
    intro r t1 t32 t33 t34 c7_0 c7_1 c7_2 c7_3
    have e : (fun t1 t32 t33 t34 c7_0 c7_1 c7_2 c7_3 => iter (exec C_flat_Settle Try.f15.ntmps M_Q0 F 2 (cL (cB (cS (cF (cS (cS (cS (cS (bo Try.f15)))))))))) (M_Q0 2) n (r + 1) (st_Q0_1 t1 t32 t33 t34 c7_0 c7_1 c7_2 c7_3) K) = w_Q0_1 F  (fun t1 t32 t33 t34 c7_0 c7_1 c7_2 c7_3 => K (.exit 2) (st_Q0_1 t1 t32 t33 t34 c7_0 c7_1 c7_2 c7_3)) n := by
      funext t1 t32 t33 t34 c7_0 c7_1 c7_2 c7_3
      exact ih (r + 1) t1 t32 t33 t34 c7_0 c7_1 c7_2 c7_3
    rw [step_Q0_1, e]
    rfl
theorem nl_Q0_1 (F : Nat) (Post : AVal UU → Prop) (t1 : Int) (t32 : List Bend) (t33 : Int) (t34 : Int) (c7_0 : List Rect) (c7_1 : List Rect) (c7_2 : List Rect) (c7_3 : List Bend) : iter (exec C_flat_Settle Try.f15.ntmps M_Q0 F 2 (cL (cB (cS (cF (cS (cS (cS (cS (bo Try.f15)))))))))) (M_Q0 2) F 0 (st_Q0_1 t1 t32 t33 t34 c7_0 c7_1 c7_2 c7_3) (k_Q0_1 F Post) = n_Q0_1 F (fun r0_Rects r0_Cuts r0_Forms r0_Bends r1 => Post (.tup [.agg [.new .rect r0_Rects, .new .rect r0_Cuts, .new .rect r0_Forms, .new .bend r0_Bends], .int .i64 r1])) t1 t32 t33 t34 c7_0 c7_1 c7_2 c7_3 := by
  rw [loop_Q0_1]
  have h0 : (fun t1 t32 t33 t34 c7_0 c7_1 c7_2 c7_3 => k_Q0_1 F Post (.exit 2) (st_Q0_1 t1 t32 t33 t34 c7_0 c7_1 c7_2 c7_3)) = (fun t1 t32 t33 t34 c7_0 c7_1 c7_2 c7_3 => g_Q0_c1_0 (fun r0_Rects r0_Cuts r0_Forms r0_Bends r1 => Post (.tup [.agg [.new .rect r0_Rects, .new .rect r0_Cuts, .new .rect r0_Forms, .new .bend r0_Bends], .int .i64 r1])) t1 t32 t33 t34 c7_0 c7_1 c7_2 c7_3) := by
    funext t1 t32 t33 t34 c7_0 c7_1 c7_2 c7_3
    rw [cont_Q0_1_0]
  rw [h0]
  rfl
theorem loop_Q0_0 (F : Nat) (K : AEx → ASt UU → Prop) : ∀ (n r : Nat) (t1 : Int) (t25 : Int) (t26 : Int) (c2_0 : List Rect) (c2_1 : List Rect) (c2_2 : List Rect) (c2_3 : List Bend) (c7_0 : List Rect) (c7_1 : List Rect) (c7_2 : List Rect) (c7_3 : List Bend), iter (exec C_flat_Settle Try.f15.ntmps M_Q0 F 0 (cL (cB (cS (cF (cS (cS (cS (bo Try.f15))))))))) (M_Q0 0) n r (st_Q0_0 t1 t25 t26 c2_0 c2_1 c2_2 c2_3 c7_0 c7_1 c7_2 c7_3) K = w_Q0_0 F  (fun t1 t25 t26 c2_0 c2_1 c2_2 c2_3 c7_0 c7_1 c7_2 c7_3 => K (.exit 0) (st_Q0_0 t1 t25 t26 c2_0 c2_1 c2_2 c2_3 c7_0 c7_1 c7_2 c7_3)) n t1 t25 t26 c2_0 c2_1 c2_2 c2_3 c7_0 c7_1 c7_2 c7_3 := by
  intro n
  induction n with
  | zero => intros; rfl
  | succ n ih =>
    intro r t1 t25 t26 c2_0 c2_1 c2_2 c2_3 c7_0 c7_1 c7_2 c7_3
    have e : (fun t1 t25 t26 c2_0 c2_1 c2_2 c2_3 c7_0 c7_1 c7_2 c7_3 => iter (exec C_flat_Settle Try.f15.ntmps M_Q0 F 0 (cL (cB (cS (cF (cS (cS (cS (bo Try.f15))))))))) (M_Q0 0) n (r + 1) (st_Q0_0 t1 t25 t26 c2_0 c2_1 c2_2 c2_3 c7_0 c7_1 c7_2 c7_3) K) = w_Q0_0 F  (fun t1 t25 t26 c2_0 c2_1 c2_2 c2_3 c7_0 c7_1 c7_2 c7_3 => K (.exit 0) (st_Q0_0 t1 t25 t26 c2_0 c2_1 c2_2 c2_3 c7_0 c7_1 c7_2 c7_3)) n := by
      funext t1 t25 t26 c2_0 c2_1 c2_2 c2_3 c7_0 c7_1 c7_2 c7_3
      exact ih (r + 1) t1 t25 t26 c2_0 c2_1 c2_2 c2_3 c7_0 c7_1 c7_2 c7_3
    rw [step_Q0_0, e]
    rfl
theorem nl_Q0_0 (F : Nat) (Post : AVal UU → Prop) (t1 : Int) (t25 : Int) (t26 : Int) (c2_0 : List Rect) (c2_1 : List Rect) (c2_2 : List Rect) (c2_3 : List Bend) (c7_0 : List Rect) (c7_1 : List Rect) (c7_2 : List Rect) (c7_3 : List Bend) : iter (exec C_flat_Settle Try.f15.ntmps M_Q0 F 0 (cL (cB (cS (cF (cS (cS (cS (bo Try.f15))))))))) (M_Q0 0) F 0 (st_Q0_0 t1 t25 t26 c2_0 c2_1 c2_2 c2_3 c7_0 c7_1 c7_2 c7_3) (k_Q0_0 F Post) = n_Q0_0 F (fun r0_Rects r0_Cuts r0_Forms r0_Bends r1 => Post (.tup [.agg [.new .rect r0_Rects, .new .rect r0_Cuts, .new .rect r0_Forms, .new .bend r0_Bends], .int .i64 r1])) t1 t25 t26 c2_0 c2_1 c2_2 c2_3 c7_0 c7_1 c7_2 c7_3 := by
  rw [loop_Q0_0]
  have e1 : (fun t1 t32 t33 t34 c7_0 c7_1 c7_2 c7_3 => iter (exec C_flat_Settle Try.f15.ntmps M_Q0 F 2 (cL (cB (cS (cF (cS (cS (cS (cS (bo Try.f15)))))))))) (M_Q0 2) F 0 (st_Q0_1 t1 t32 t33 t34 c7_0 c7_1 c7_2 c7_3) (k_Q0_1 F Post)) = (n_Q0_1 F (fun r0_Rects r0_Cuts r0_Forms r0_Bends r1 => Post (.tup [.agg [.new .rect r0_Rects, .new .rect r0_Cuts, .new .rect r0_Forms, .new .bend r0_Bends], .int .i64 r1]))) := by
    funext t1 t32 t33 t34 c7_0 c7_1 c7_2 c7_3
    exact nl_Q0_1 F Post t1 t32 t33 t34 c7_0 c7_1 c7_2 c7_3
  have h0 : (fun t1 t25 t26 c2_0 c2_1 c2_2 c2_3 c7_0 c7_1 c7_2 c7_3 => k_Q0_0 F Post (.exit 0) (st_Q0_0 t1 t25 t26 c2_0 c2_1 c2_2 c2_3 c7_0 c7_1 c7_2 c7_3)) = (fun t1 t25 t26 c2_0 c2_1 c2_2 c2_3 c7_0 c7_1 c7_2 c7_3 => g_Q0_c0_0 (fun r0_Rects r0_Cuts r0_Forms r0_Bends r1 => Post (.tup [.agg [.new .rect r0_Rects, .new .rect r0_Cuts, .new .rect r0_Forms, .new .bend r0_Bends], .int .i64 r1])) t1 t25 t26 c2_0 c2_1 c2_2 c2_3 c7_0 c7_1 c7_2 c7_3 (n_Q0_1 F (fun r0_Rects r0_Cuts r0_Forms r0_Bends r1 => Post (.tup [.agg [.new .rect r0_Rects, .new .rect r0_Cuts, .new .rect r0_Forms, .new .bend r0_Bends], .int .i64 r1])))) := by
    funext t1 t25 t26 c2_0 c2_1 c2_2 c2_3 c7_0 c7_1 c7_2 c7_3
    rw [cont_Q0_0_0, e1]
  rw [h0]
  rfl
theorem exec_Q0 (F : Nat) (Post : AVal UU → Prop) (a0_Rects : List Rect) (a0_Cuts : List Rect) (a0_Forms : List Rect) (a0_Bends : List Bend) : exec C_flat_Settle Try.f15.ntmps M_Q0 F 0 (bo Try.f15) (initSt [.agg [.sl .rect a0_Rects, .sl .rect a0_Cuts, .sl .rect a0_Forms, .sl .bend a0_Bends], .int .i64 0]) (AEnds C_flat_Settle true Try.f15 Post) = w_Q0 F a0_Rects a0_Cuts a0_Forms a0_Bends (fun r0_Rects r0_Cuts r0_Forms r0_Bends r1 => Post (.tup [.agg [.new .rect r0_Rects, .new .rect r0_Cuts, .new .rect r0_Forms, .new .bend r0_Bends], .int .i64 r1])) := by
  rw [entry_Q0]
  have e0 : (fun t1 t25 t26 c2_0 c2_1 c2_2 c2_3 c7_0 c7_1 c7_2 c7_3 => iter (exec C_flat_Settle Try.f15.ntmps M_Q0 F 0 (cL (cB (cS (cF (cS (cS (cS (bo Try.f15))))))))) (M_Q0 0) F 0 (st_Q0_0 t1 t25 t26 c2_0 c2_1 c2_2 c2_3 c7_0 c7_1 c7_2 c7_3) (k_Q0_0 F Post)) = (n_Q0_0 F (fun r0_Rects r0_Cuts r0_Forms r0_Bends r1 => Post (.tup [.agg [.new .rect r0_Rects, .new .rect r0_Cuts, .new .rect r0_Forms, .new .bend r0_Bends], .int .i64 r1]))) := by
    funext t1 t25 t26 c2_0 c2_1 c2_2 c2_3 c7_0 c7_1 c7_2 c7_3
    exact nl_Q0_0 F Post t1 t25 t26 c2_0 c2_1 c2_2 c2_3 c7_0 c7_1 c7_2 c7_3
  rw [e0]
  rfl
def k_Q1_0 (F : Nat) (Post : AVal UU → Prop) : AEx → ASt UU → Prop := kBlock 0 (kSeq C_flat_Settle Try.f15.ntmps M_Q1 (F + 1) 0 (cS (cS (cS (cS (bo Try.f15))))) (AEnds C_flat_Settle true Try.f15 Post))
def k_Q1_2 (F : Nat) (Post : AVal UU → Prop) : AEx → ASt UU → Prop := kBlock 2 (kSeq C_flat_Settle Try.f15.ntmps M_Q1 (F + 1) 0 (cS (cS (cS (cS (cS (bo Try.f15)))))) (AEnds C_flat_Settle true Try.f15 Post))
set_option maxRecDepth 100000 in
theorem step_Q1_0 (F : Nat) (K : AEx → ASt UU → Prop) (t1 : Int) (t25 : Int) (t26 : Int) (c2_0 : List Rect) (c2_1 : List Rect) (c2_2 : List Rect) (c2_3 : List Bend) (c7_0 : List Rect) (c7_1 : List Rect) (c7_2 : List Rect) (c7_3 : List Bend) : iter (exec C_flat_Settle Try.f15.ntmps M_Q1 (F + 1) 0 (cL (cB (cS (cF (cS (cS (cS (bo Try.f15))))))))) (M_Q1 0) (F + 1) 0 (st_Q1_0 t1 t25 t26 c2_0 c2_1 c2_2 c2_3 c7_0 c7_1 c7_2 c7_3) K = g_Q1_s0 (fun t1 t25 t26 c2_0 c2_1 c2_2 c2_3 l108 l109 l110 l111 => iter (exec C_flat_Settle Try.f15.ntmps M_Q1 (F + 1) 0 (cL (cB (cS (cF (cS (cS (cS (bo Try.f15))))))))) (M_Q1 0) F 1 (st_Q1_1 t1 t25 t26 c2_0 c2_1 c2_2 c2_3 l108 l109 l110 l111) K) (fun t1 t25 t26 c2_0 c2_1 c2_2 c2_3 c7_0 c7_1 c7_2 c7_3 => K (.exit 0) (st_Q1_0 t1 t25 t26 c2_0 c2_1 c2_2 c2_3 c7_0 c7_1 c7_2 c7_3)) (fun t1 t25 t26 c2_0 c2_1 c2_2 c2_3 l108 l109 l110 l111 => K (.exit 0) (st_Q1_0_1 t1 t25 t26 c2_0 c2_1 c2_2 c2_3 l108 l109 l110 l111)) t1 t25 t26 c2_0 c2_1 c2_2 c2_3 c7_0 c7_1 c7_2 c7_3 := by kernel_rfl
set_option maxRecDepth 100000 in
theorem cont_Q1_0_0 (F : Nat) (Post : AVal UU → Prop) (t1 : Int) (t25 : Int) (t26 : Int) (c2_0 : List Rect) (c2_1 : List Rect) (c2_2 : List Rect) (c2_3 : List Bend) (c7_0 : List Rect) (c7_1 : List Rect) (c7_2 : List Rect) (c7_3 : List Bend) : k_Q1_0 F Post (.exit 0) (st_Q1_0 t1 t25 t26 c2_0 c2_1 c2_2 c2_3 c7_0 c7_1 c7_2 c7_3) = g_Q1_c0_0 (fun r0_Rects r0_Cuts r0_Forms r0_Bends r1 => Post (.tup [.agg [.new .rect r0_Rects, .new .rect r0_Cuts, .new .rect r0_Forms, .new .bend r0_Bends], .int .i64 r1])) t1 t25 t26 c2_0 c2_1 c2_2 c2_3 c7_0 c7_1 c7_2 c7_3 := by kernel_rfl
set_option maxRecDepth 100000 in
theorem cont_Q1_0_1 (F : Nat) (Post : AVal UU → Prop) (t1 : Int) (t25 : Int) (t26 : Int) (c2_0 : List Rect) (c2_1 : List Rect) (c2_2 : List Rect) (c2_3 : List Bend) (l108 : List Rect) (l109 : List Rect) (l110 : List Rect) (l111 : List Bend) : k_Q1_0 F Post (.exit 0) (st_Q1_0_1 t1 t25 t26 c2_0 c2_1 c2_2 c2_3 l108 l109 l110 l111) = g_Q1_c0_1 (fun r0_Rects r0_Cuts r0_Forms r0_Bends r1 => Post (.tup [.agg [.new .rect r0_Rects, .new .rect r0_Cuts, .new .rect r0_Forms, .new .bend r0_Bends], .int .i64 r1])) t1 t25 t26 c2_0 c2_1 c2_2 c2_3 l108 l109 l110 l111 (fun t1 t32 t33 t34 l108 l109 l110 l111 => iter (exec C_flat_Settle Try.f15.ntmps M_Q1 (F + 1) 2 (cL (cB (cS (cF (cS (cS (cS (cS (bo Try.f15)))))))))) (M_Q1 2) (F + 1) 0 (st_Q1_2 t1 t32 t33 t34 l108 l109 l110 l111) (k_Q1_2 F Post)) := by kernel_rfl
set_option maxRecDepth 100000 in
theorem step_Q1_1 (F n r : Nat) (K : AEx → ASt UU → Prop) (t1 : Int) (t25 : Int) (t26 : Int) (c2_0 : List Rect) (c2_1 : List Rect) (c2_2 : List Rect) (c2_3 : List Bend) (l108 : List Rect) (l109 : List Rect) (l110 : List Rect) (l111 : List Bend) : iter (exec C_flat_Settle Try.f15.ntmps M_Q1 (F + 1) 0 (cL (cB (cS (cF (cS (cS (cS (bo Try.f15))))))))) (M_Q1 0) (n + 1) (r + 1) (st_Q1_1 t1 t25 t26 c2_0 c2_1 c2_2 c2_3 l108 l109 l110 l111) K = g_Q1_s1 (fun t1 t25 t26 c2_0 c2_1 c2_2 c2_3 l108 l109 l110 l111 => iter (exec C_flat_Settle Try.f15.ntmps M_Q1 (F + 1) 0 (cL (cB (cS (cF (cS (cS (cS (bo Try.f15))))))))) (M_Q1 0) n ((r + 1) + 1) (st_Q1_1 t1 t25 t26 c2_0 c2_1 c2_2 c2_3 l108 l109 l110 l111) K) (fun t1 t25 t26 c2_0 c2_1 c2_2 c2_3 c7_0 c7_1 c7_2 c7_3 => K (.exit 0) (st_Q1_0 t1 t25 t26 c2_0 c2_1 c2_2 c2_3 c7_0 c7_1 c7_2 c7_3)) (fun t1 t25 t26 c2_0 c2_1 c2_2 c2_3 l108 l109 l110 l111 => K (.exit 0) (st_Q1_0_1 t1 t25 t26 c2_0 c2_1 c2_2 c2_3 l108 l109 l110 l111)) t1 t25 t26 c2_0 c2_1 c2_2 c2_3 l108 l109 l110 l111 := by kernel_rfl
set_option maxRecDepth 100000 in
theorem step_Q1_2 (F n r : Nat) (K : AEx → ASt UU → Prop) (t1 : Int) (t32 : List Bend) (t33 : Int) (t34 : Int) (l108 : List Rect) (l109 : List Rect) (l110 : List Rect) (l111 : List Bend) : iter (exec C_flat_Settle Try.f15.ntmps M_Q1 (F + 1) 2 (cL (cB (cS (cF (cS (cS (cS (cS (bo Try.f15)))))))))) (M_Q1 2) (n + 1) r (st_Q1_2 t1 t32 t33 t34 l108 l109 l110 l111) K = g_Q1_s2 (fun t1 t32 t33 t34 l108 l109 l110 l111 => iter (exec C_flat_Settle Try.f15.ntmps M_Q1 (F + 1) 2 (cL (cB (cS (cF (cS (cS (cS (cS (bo Try.f15)))))))))) (M_Q1 2) n (r + 1) (st_Q1_2 t1 t32 t33 t34 l108 l109 l110 l111) K) (fun t1 t32 t33 t34 l108 l109 l110 l111 => K (.exit 2) (st_Q1_2 t1 t32 t33 t34 l108 l109 l110 l111)) t1 t32 t33 t34 l108 l109 l110 l111 := by kernel_rfl
set_option maxRecDepth 100000 in
theorem cont_Q1_2_0 (F : Nat) (Post : AVal UU → Prop) (t1 : Int) (t32 : List Bend) (t33 : Int) (t34 : Int) (l108 : List Rect) (l109 : List Rect) (l110 : List Rect) (l111 : List Bend) : k_Q1_2 F Post (.exit 2) (st_Q1_2 t1 t32 t33 t34 l108 l109 l110 l111) = g_Q1_c2_0 (fun r0_Rects r0_Cuts r0_Forms r0_Bends r1 => Post (.tup [.agg [.new .rect r0_Rects, .new .rect r0_Cuts, .new .rect r0_Forms, .new .bend r0_Bends], .int .i64 r1])) t1 t32 t33 t34 l108 l109 l110 l111 := by kernel_rfl
set_option maxRecDepth 100000 in
theorem entry_Q1 (F : Nat) (Post : AVal UU → Prop) (a0_Rects : List Rect) (a0_Cuts : List Rect) (a0_Forms : List Rect) (a0_Bends : List Bend) (a1 : Int) : exec C_flat_Settle Try.f15.ntmps M_Q1 (F + 1) 0 (bo Try.f15) (initSt [.agg [.sl .rect a0_Rects, .sl .rect a0_Cuts, .sl .rect a0_Forms, .sl .bend a0_Bends], .int .i64 a1]) (AEnds C_flat_Settle true Try.f15 Post) = g_Q1_e a0_Rects a0_Cuts a0_Forms a0_Bends a1 (fun r0_Rects r0_Cuts r0_Forms r0_Bends r1 => Post (.tup [.agg [.new .rect r0_Rects, .new .rect r0_Cuts, .new .rect r0_Forms, .new .bend r0_Bends], .int .i64 r1])) (fun t1 t25 t26 c2_0 c2_1 c2_2 c2_3 c7_0 c7_1 c7_2 c7_3 => iter (exec C_flat_Settle Try.f15.ntmps M_Q1 (F + 1) 0 (cL (cB (cS (cF (cS (cS (cS (bo Try.f15))))))))) (M_Q1 0) (F + 1) 0 (st_Q1_0 t1 t25 t26 c2_0 c2_1 c2_2 c2_3 c7_0 c7_1 c7_2 c7_3) (k_Q1_0 F Post)) := by kernel_rfl
theorem loop_Q1_2 (F : Nat) (K : AEx → ASt UU → Prop) : ∀ (n r : Nat) (t1 : Int) (t32 : List Bend) (t33 : Int) (t34 : Int) (l108 : List Rect) (l109 : List Rect) (l110 : List Rect) (l111 : List Bend), iter (exec C_flat_Settle Try.f15.ntmps M_Q1 (F + 1) 2 (cL (cB (cS (cF (cS (cS (cS (cS (bo Try.f15)))))))))) (M_Q1 2) n r (st_Q1_2 t1 t32 t33 t34 l108 l109 l110 l111) K = w_Q1_2 F  (fun t1 t32 t33 t34 l108 l109 l110 l111 => K (.exit 2) (st_Q1_2 t1 t32 t33 t34 l108 l109 l110 l111)) n t1 t32 t33 t34 l108 l109 l110 l111 := by
  intro n
  induction n with
  | zero => intros; rfl
  | succ n ih =>
    intro r t1 t32 t33 t34 l108 l109 l110 l111
    have e : (fun t1 t32 t33 t34 l108 l109 l110 l111 => iter (exec C_flat_Settle Try.f15.ntmps M_Q1 (F + 1) 2 (cL (cB (cS (cF (cS (cS (cS (cS (bo Try.f15)))))))))) (M_Q1 2) n (r + 1) (st_Q1_2 t1 t32 t33 t34 l108 l109 l110 l111) K) = w_Q1_2 F  (fun t1 t32 t33 t34 l108 l109 l110 l111 => K (.exit 2) (st_Q1_2 t1 t32 t33 t34 l108 l109 l110 l111)) n := by
      funext t1 t32 t33 t34 l108 l109 l110 l111
      exact ih (r + 1) t1 t32 t33 t34 l108 l109 l110 l111
    rw [step_Q1_2, e]
    rfl
theorem nl_Q1_2 (F : Nat) (Post : AVal UU → Prop) (t1 : Int) (t32 : List Bend) (t33 : Int) (t34 : Int) (l108 : List Rect) (l109 : List Rect) (l110 : List Rect) (l111 : List Bend) : iter (exec C_flat_Settle Try.f15.ntmps M_Q1 (F + 1) 2 (cL (cB (cS (cF (cS (cS (cS (cS (bo Try.f15)))))))))) (M_Q1 2) (F + 1) 0 (st_Q1_2 t1 t32 t33 t34 l108 l109 l110 l111) (k_Q1_2 F Post) = n_Q1_2 F (fun r0_Rects r0_Cuts r0_Forms r0_Bends r1 => Post (.tup [.agg [.new .rect r0_Rects, .new .rect r0_Cuts, .new .rect r0_Forms, .new .bend r0_Bends], .int .i64 r1])) t1 t32 t33 t34 l108 l109 l110 l111 := by
  rw [loop_Q1_2]
  have h0 : (fun t1 t32 t33 t34 l108 l109 l110 l111 => k_Q1_2 F Post (.exit 2) (st_Q1_2 t1 t32 t33 t34 l108 l109 l110 l111)) = (fun t1 t32 t33 t34 l108 l109 l110 l111 => g_Q1_c2_0 (fun r0_Rects r0_Cuts r0_Forms r0_Bends r1 => Post (.tup [.agg [.new .rect r0_Rects, .new .rect r0_Cuts, .new .rect r0_Forms, .new .bend r0_Bends], .int .i64 r1])) t1 t32 t33 t34 l108 l109 l110 l111) := by
    funext t1 t32 t33 t34 l108 l109 l110 l111
    rw [cont_Q1_2_0]
  rw [h0]
  rfl
theorem loop_Q1_1 (F : Nat) (K : AEx → ASt UU → Prop) : ∀ (n r : Nat) (t1 : Int) (t25 : Int) (t26 : Int) (c2_0 : List Rect) (c2_1 : List Rect) (c2_2 : List Rect) (c2_3 : List Bend) (l108 : List Rect) (l109 : List Rect) (l110 : List Rect) (l111 : List Bend), iter (exec C_flat_Settle Try.f15.ntmps M_Q1 (F + 1) 0 (cL (cB (cS (cF (cS (cS (cS (bo Try.f15))))))))) (M_Q1 0) n (r + 1) (st_Q1_1 t1 t25 t26 c2_0 c2_1 c2_2 c2_3 l108 l109 l110 l111) K = w_Q1_1 F  (fun t1 t25 t26 c2_0 c2_1 c2_2 c2_3 c7_0 c7_1 c7_2 c7_3 => K (.exit 0) (st_Q1_0 t1 t25 t26 c2_0 c2_1 c2_2 c2_3 c7_0 c7_1 c7_2 c7_3)) (fun t1 t25 t26 c2_0 c2_1 c2_2 c2_3 l108 l109 l110 l111 => K (.exit 0) (st_Q1_0_1 t1 t25 t26 c2_0 c2_1 c2_2 c2_3 l108 l109 l110 l111)) n t1 t25 t26 c2_0 c2_1 c2_2 c2_3 l108 l109 l110 l111 := by
  intro n
  induction n with
  | zero => intros; rfl
  | succ n ih =>
    intro r t1 t25 t26 c2_0 c2_1 c2_2 c2_3 l108 l109 l110 l111
    have e : (fun t1 t25 t26 c2_0 c2_1 c2_2 c2_3 l108 l109 l110 l111 => iter (exec C_flat_Settle Try.f15.ntmps M_Q1 (F + 1) 0 (cL (cB (cS (cF (cS (cS (cS (bo Try.f15))))))))) (M_Q1 0) n ((r + 1) + 1) (st_Q1_1 t1 t25 t26 c2_0 c2_1 c2_2 c2_3 l108 l109 l110 l111) K) = w_Q1_1 F  (fun t1 t25 t26 c2_0 c2_1 c2_2 c2_3 c7_0 c7_1 c7_2 c7_3 => K (.exit 0) (st_Q1_0 t1 t25 t26 c2_0 c2_1 c2_2 c2_3 c7_0 c7_1 c7_2 c7_3)) (fun t1 t25 t26 c2_0 c2_1 c2_2 c2_3 l108 l109 l110 l111 => K (.exit 0) (st_Q1_0_1 t1 t25 t26 c2_0 c2_1 c2_2 c2_3 l108 l109 l110 l111)) n := by
      funext t1 t25 t26 c2_0 c2_1 c2_2 c2_3 l108 l109 l110 l111
      exact ih (r + 1) t1 t25 t26 c2_0 c2_1 c2_2 c2_3 l108 l109 l110 l111
    rw [step_Q1_1, e]
    rfl
theorem loop_Q1_0 (F : Nat) (K : AEx → ASt UU → Prop) (t1 : Int) (t25 : Int) (t26 : Int) (c2_0 : List Rect) (c2_1 : List Rect) (c2_2 : List Rect) (c2_3 : List Bend) (c7_0 : List Rect) (c7_1 : List Rect) (c7_2 : List Rect) (c7_3 : List Bend) : iter (exec C_flat_Settle Try.f15.ntmps M_Q1 (F + 1) 0 (cL (cB (cS (cF (cS (cS (cS (bo Try.f15))))))))) (M_Q1 0) (F + 1) 0 (st_Q1_0 t1 t25 t26 c2_0 c2_1 c2_2 c2_3 c7_0 c7_1 c7_2 c7_3) K = w_Q1_0 F  (fun t1 t25 t26 c2_0 c2_1 c2_2 c2_3 c7_0 c7_1 c7_2 c7_3 => K (.exit 0) (st_Q1_0 t1 t25 t26 c2_0 c2_1 c2_2 c2_3 c7_0 c7_1 c7_2 c7_3)) (fun t1 t25 t26 c2_0 c2_1 c2_2 c2_3 l108 l109 l110 l111 => K (.exit 0) (st_Q1_0_1 t1 t25 t26 c2_0 c2_1 c2_2 c2_3 l108 l109 l110 l111)) t1 t25 t26 c2_0 c2_1 c2_2 c2_3 c7_0 c7_1 c7_2 c7_3 := by
  have e : (fun t1 t25 t26 c2_0 c2_1 c2_2 c2_3 l108 l109 l110 l111 => iter (exec C_flat_Settle Try.f15.ntmps M_Q1 (F + 1) 0 (cL (cB (cS (cF (cS (cS (cS (bo Try.f15))))))))) (M_Q1 0) F 1 (st_Q1_1 t1 t25 t26 c2_0 c2_1 c2_2 c2_3 l108 l109 l110 l111) K) = w_Q1_1 F  (fun t1 t25 t26 c2_0 c2_1 c2_2 c2_3 c7_0 c7_1 c7_2 c7_3 => K (.exit 0) (st_Q1_0 t1 t25 t26 c2_0 c2_1 c2_2 c2_3 c7_0 c7_1 c7_2 c7_3)) (fun t1 t25 t26 c2_0 c2_1 c2_2 c2_3 l108 l109 l110 l111 => K (.exit 0) (st_Q1_0_1 t1 t25 t26 c2_0 c2_1 c2_2 c2_3 l108 l109 l110 l111)) F := by
    funext t1 t25 t26 c2_0 c2_1 c2_2 c2_3 l108 l109 l110 l111
    exact loop_Q1_1 F K F 0 t1 t25 t26 c2_0 c2_1 c2_2 c2_3 l108 l109 l110 l111
  rw [step_Q1_0, e]
  rfl
theorem nl_Q1_0 (F : Nat) (Post : AVal UU → Prop) (t1 : Int) (t25 : Int) (t26 : Int) (c2_0 : List Rect) (c2_1 : List Rect) (c2_2 : List Rect) (c2_3 : List Bend) (c7_0 : List Rect) (c7_1 : List Rect) (c7_2 : List Rect) (c7_3 : List Bend) : iter (exec C_flat_Settle Try.f15.ntmps M_Q1 (F + 1) 0 (cL (cB (cS (cF (cS (cS (cS (bo Try.f15))))))))) (M_Q1 0) (F + 1) 0 (st_Q1_0 t1 t25 t26 c2_0 c2_1 c2_2 c2_3 c7_0 c7_1 c7_2 c7_3) (k_Q1_0 F Post) = n_Q1_0 F (fun r0_Rects r0_Cuts r0_Forms r0_Bends r1 => Post (.tup [.agg [.new .rect r0_Rects, .new .rect r0_Cuts, .new .rect r0_Forms, .new .bend r0_Bends], .int .i64 r1])) t1 t25 t26 c2_0 c2_1 c2_2 c2_3 c7_0 c7_1 c7_2 c7_3 := by
  rw [loop_Q1_0]
  have e2 : (fun t1 t32 t33 t34 l108 l109 l110 l111 => iter (exec C_flat_Settle Try.f15.ntmps M_Q1 (F + 1) 2 (cL (cB (cS (cF (cS (cS (cS (cS (bo Try.f15)))))))))) (M_Q1 2) (F + 1) 0 (st_Q1_2 t1 t32 t33 t34 l108 l109 l110 l111) (k_Q1_2 F Post)) = (n_Q1_2 F (fun r0_Rects r0_Cuts r0_Forms r0_Bends r1 => Post (.tup [.agg [.new .rect r0_Rects, .new .rect r0_Cuts, .new .rect r0_Forms, .new .bend r0_Bends], .int .i64 r1]))) := by
    funext t1 t32 t33 t34 l108 l109 l110 l111
    exact nl_Q1_2 F Post t1 t32 t33 t34 l108 l109 l110 l111
  have h0 : (fun t1 t25 t26 c2_0 c2_1 c2_2 c2_3 c7_0 c7_1 c7_2 c7_3 => k_Q1_0 F Post (.exit 0) (st_Q1_0 t1 t25 t26 c2_0 c2_1 c2_2 c2_3 c7_0 c7_1 c7_2 c7_3)) = (fun t1 t25 t26 c2_0 c2_1 c2_2 c2_3 c7_0 c7_1 c7_2 c7_3 => g_Q1_c0_0 (fun r0_Rects r0_Cuts r0_Forms r0_Bends r1 => Post (.tup [.agg [.new .rect r0_Rects, .new .rect r0_Cuts, .new .rect r0_Forms, .new .bend r0_Bends], .int .i64 r1])) t1 t25 t26 c2_0 c2_1 c2_2 c2_3 c7_0 c7_1 c7_2 c7_3) := by
    funext t1 t25 t26 c2_0 c2_1 c2_2 c2_3 c7_0 c7_1 c7_2 c7_3
    rw [cont_Q1_0_0]
  have h1 : (fun t1 t25 t26 c2_0 c2_1 c2_2 c2_3 l108 l109 l110 l111 => k_Q1_0 F Post (.exit 0) (st_Q1_0_1 t1 t25 t26 c2_0 c2_1 c2_2 c2_3 l108 l109 l110 l111)) = (fun t1 t25 t26 c2_0 c2_1 c2_2 c2_3 l108 l109 l110 l111 => g_Q1_c0_1 (fun r0_Rects r0_Cuts r0_Forms r0_Bends r1 => Post (.tup [.agg [.new .rect r0_Rects, .new .rect r0_Cuts, .new .rect r0_Forms, .new .bend r0_Bends], .int .i64 r1])) t1 t25 t26 c2_0 c2_1 c2_2 c2_3 l108 l109 l110 l111 (n_Q1_2 F (fun r0_Rects r0_Cuts r0_Forms r0_Bends r1 => Post (.tup [.agg [.new .rect r0_Rects, .new .rect r0_Cuts, .new .rect r0_Forms, .new .bend r0_Bends], .int .i64 r1])))) := by
    funext t1 t25 t26 c2_0 c2_1 c2_2 c2_3 l108 l109 l110 l111
    rw [cont_Q1_0_1, e2]
  rw [h0, h1]
  rfl
theorem exec_Q1 (F : Nat) (Post : AVal UU → Prop) (a0_Rects : List Rect) (a0_Cuts : List Rect) (a0_Forms : List Rect) (a0_Bends : List Bend) (a1 : Int) : exec C_flat_Settle Try.f15.ntmps M_Q1 (F + 1) 0 (bo Try.f15) (initSt [.agg [.sl .rect a0_Rects, .sl .rect a0_Cuts, .sl .rect a0_Forms, .sl .bend a0_Bends], .int .i64 a1]) (AEnds C_flat_Settle true Try.f15 Post) = w_Q1 F a0_Rects a0_Cuts a0_Forms a0_Bends a1 (fun r0_Rects r0_Cuts r0_Forms r0_Bends r1 => Post (.tup [.agg [.new .rect r0_Rects, .new .rect r0_Cuts, .new .rect r0_Forms, .new .bend r0_Bends], .int .i64 r1])) := by
  rw [entry_Q1]
  have e0 : (fun t1 t25 t26 c2_0 c2_1 c2_2 c2_3 c7_0 c7_1 c7_2 c7_3 => iter (exec C_flat_Settle Try.f15.ntmps M_Q1 (F + 1) 0 (cL (cB (cS (cF (cS (cS (cS (bo Try.f15))))))))) (M_Q1 0) (F + 1) 0 (st_Q1_0 t1 t25 t26 c2_0 c2_1 c2_2 c2_3 c7_0 c7_1 c7_2 c7_3) (k_Q1_0 F Post)) = (n_Q1_0 F (fun r0_Rects r0_Cuts r0_Forms r0_Bends r1 => Post (.tup [.agg [.new .rect r0_Rects, .new .rect r0_Cuts, .new .rect r0_Forms, .new .bend r0_Bends], .int .i64 r1]))) := by
    funext t1 t25 t26 c2_0 c2_1 c2_2 c2_3 c7_0 c7_1 c7_2 c7_3
    exact nl_Q1_0 F Post t1 t25 t26 c2_0 c2_1 c2_2 c2_3 c7_0 c7_1 c7_2 c7_3
  rw [e0]
  rfl
def m_flat_Quarter : Model UU
  | [.agg [.sl .rect a0_Rects, .sl .rect a0_Cuts, .sl .rect a0_Forms, .sl .bend a0_Bends], .int .i64 a1] => some ([pre_flat_Quarter a0_Rects a0_Cuts a0_Forms a0_Bends a1], .tup [.agg [.new .rect ((sp_flat_Quarter a0_Rects a0_Cuts a0_Forms a0_Bends a1).1), .new .rect ((sp_flat_Quarter a0_Rects a0_Cuts a0_Forms a0_Bends a1).2.1), .new .rect ((sp_flat_Quarter a0_Rects a0_Cuts a0_Forms a0_Bends a1).2.2.1), .new .bend ((sp_flat_Quarter a0_Rects a0_Cuts a0_Forms a0_Bends a1).2.2.2.1)], .int .i64 ((sp_flat_Quarter a0_Rects a0_Cuts a0_Forms a0_Bends a1).2.2.2.2)])
  | _ => none
def C_flat_Quarter : Cfg UU := C_flat_Settle.add 15 m_flat_Quarter
theorem s_flat_Quarter : SumOK C_flat_Quarter := by
  refine s_flat_Settle.addD mixed (fn := Try.f15) (c := bo Try.f15) Try.func15 (by kernel_rfl) (by kernel_rfl) ?_
  intro xs cs r h hc
  unfold m_flat_Quarter at h
  split at h
  · rename_i a0_Rects a0_Cuts a0_Forms a0_Bends a1
    cases h
    by_cases hz : a1 = 0
    · subst hz
      obtain ⟨F, hF⟩ := ok_Q0 a0_Rects a0_Cuts a0_Forms a0_Bends hc
      refine ⟨by kernel_rfl, M_Q0, F, true, ⟨?_⟩⟩
      rw [exec_Q0]
      refine hF _ ?_
      rfl
    · skip
      obtain ⟨F, hF⟩ := ok_Q1 a0_Rects a0_Cuts a0_Forms a0_Bends a1 hc hz
      refine ⟨by kernel_rfl, M_Q1, (F + 1), true, ⟨?_⟩⟩
      rw [exec_Q1]
      refine hF _ ?_
      rfl
  · cases h
set_option maxRecDepth 100000 in
theorem entry_law03_Long (F : Nat) (Post : AVal UU → Prop) (a0_Rects : List Rect) (a0_Cuts : List Rect) (a0_Forms : List Rect) (a0_Bends : List Bend) : exec C_flat_Quarter Try.f8.ntmps M_law03_Long F 0 (bo Try.f8) (initSt [.agg [.sl .rect a0_Rects, .sl .rect a0_Cuts, .sl .rect a0_Forms, .sl .bend a0_Bends]]) (AEnds C_flat_Quarter false Try.f8 Post) = g_law03_Long_e a0_Rects a0_Cuts a0_Forms a0_Bends (fun r0 => Post (.bool r0)) := by kernel_rfl
theorem exec_law03_Long (F : Nat) (Post : AVal UU → Prop) (a0_Rects : List Rect) (a0_Cuts : List Rect) (a0_Forms : List Rect) (a0_Bends : List Bend) : exec C_flat_Quarter Try.f8.ntmps M_law03_Long F 0 (bo Try.f8) (initSt [.agg [.sl .rect a0_Rects, .sl .rect a0_Cuts, .sl .rect a0_Forms, .sl .bend a0_Bends]]) (AEnds C_flat_Quarter false Try.f8 Post) = w_law03_Long F a0_Rects a0_Cuts a0_Forms a0_Bends (fun r0 => Post (.bool r0)) := by
  rw [entry_law03_Long]
  rfl
def m_law03_Long : Model UU
  | [.agg [.sl .rect a0_Rects, .sl .rect a0_Cuts, .sl .rect a0_Forms, .sl .bend a0_Bends]] => some ([], .bool (sp_law03_Long a0_Rects a0_Cuts a0_Forms a0_Bends))
  | _ => none
def C_law03_Long : Cfg UU := C_flat_Quarter.add 8 m_law03_Long
theorem s_law03_Long : SumOK C_law03_Long := by
  refine s_flat_Quarter.addD mixed (fn := Try.f8) (c := bo Try.f8) Try.func8 (by kernel_rfl) (by kernel_rfl) ?_
  intro xs cs r h hc
  unfold m_law03_Long at h
  split at h
  · rename_i a0_Rects a0_Cuts a0_Forms a0_Bends
    cases h
    obtain ⟨F, hF⟩ := ok_law03_Long a0_Rects a0_Cuts a0_Forms a0_Bends
    refine ⟨by kernel_rfl, M_law03_Long, F, false, ⟨?_⟩⟩
    rw [exec_law03_Long]
    refine hF _ ?_
    rfl
  · cases h
end
end Go.Proofs.Ytohecfbnmmgimaa
