/- That the code says what the printed pieces say, by the kernel; printed by gen.py. Conditions: none. -/
import Derived.Test.YtohecfbnmmgimaaGI
import Derived.Test.YtohecfbnmmgimaaTG
namespace Go.Proofs.Ytohecfbnmmgimaa
open Go.Vm Go.RowKit
set_option linter.unusedVariables false
noncomputable section
set_option maxRecDepth 100000 in
theorem entry_geom_within (F : Nat) (Post : AVal UU → Prop) (a0 : Int) (a1 : Int) : exec C_law03_known Try.f79.ntmps M_geom_within F 0 (bo Try.f79) (initSt [.int .i64 a0, .int .i64 a1]) (AEnds C_law03_known false Try.f79 Post) = g_geom_within_e a0 a1 (fun r0 => Post (.bool r0)) := by kernel_rfl
theorem exec_geom_within (F : Nat) (Post : AVal UU → Prop) (a0 : Int) (a1 : Int) : exec C_law03_known Try.f79.ntmps M_geom_within F 0 (bo Try.f79) (initSt [.int .i64 a0, .int .i64 a1]) (AEnds C_law03_known false Try.f79 Post) = w_geom_within F a0 a1 (fun r0 => Post (.bool r0)) := by
  rw [entry_geom_within]
  rfl
def m_geom_within : Model UU
  | [.int .i64 a0, .int .i64 a1] => some ([], .bool (sp_geom_within a0 a1))
  | _ => none
def C_geom_within : Cfg UU := C_law03_known.add 79 m_geom_within
theorem s_geom_within : SumOK C_geom_within := by
  refine s_law03_known.addD mixed (fn := Try.f79) (c := bo Try.f79) Try.func79 (by kernel_rfl) (by kernel_rfl) ?_
  intro xs cs r h hc
  unfold m_geom_within at h
  split at h
  · rename_i a0 a1
    cases h
    obtain ⟨F, hF⟩ := ok_geom_within a0 a1
    refine ⟨by kernel_rfl, M_geom_within, F, false, ⟨?_⟩⟩
    rw [exec_geom_within]
    refine hF _ ?_
    rfl
  · cases h
set_option maxRecDepth 100000 in
theorem entry_geom_ValidRect_1 (F : Nat) (Post : AVal UU → Prop) (a0 : Int) (a1 : Int) : exec C_geom_within Try.f78.ntmps M_geom_ValidRect_1 F 0 (bo Try.f78) (initSt [.int .i64 a0, .int .i64 a1]) (AEnds C_geom_within false Try.f78 Post) = g_geom_ValidRect_1_e a0 a1 (fun r0 => Post (.bool r0)) := by kernel_rfl
theorem exec_geom_ValidRect_1 (F : Nat) (Post : AVal UU → Prop) (a0 : Int) (a1 : Int) : exec C_geom_within Try.f78.ntmps M_geom_ValidRect_1 F 0 (bo Try.f78) (initSt [.int .i64 a0, .int .i64 a1]) (AEnds C_geom_within false Try.f78 Post) = w_geom_ValidRect_1 F a0 a1 (fun r0 => Post (.bool r0)) := by
  rw [entry_geom_ValidRect_1]
  rfl
def m_geom_ValidRect_1 : Model UU
  | [.int .i64 a0, .int .i64 a1] => some ([], .bool (sp_geom_ValidRect_1 a0 a1))
  | _ => none
def C_geom_ValidRect_1 : Cfg UU := C_geom_within.add 78 m_geom_ValidRect_1
theorem s_geom_ValidRect_1 : SumOK C_geom_ValidRect_1 := by
  refine s_geom_within.addD mixed (fn := Try.f78) (c := bo Try.f78) Try.func78 (by kernel_rfl) (by kernel_rfl) ?_
  intro xs cs r h hc
  unfold m_geom_ValidRect_1 at h
  split at h
  · rename_i a0 a1
    cases h
    obtain ⟨F, hF⟩ := ok_geom_ValidRect_1 a0 a1
    refine ⟨by kernel_rfl, M_geom_ValidRect_1, F, false, ⟨?_⟩⟩
    rw [exec_geom_ValidRect_1]
    refine hF _ ?_
    rfl
  · cases h
set_option maxRecDepth 100000 in
theorem entry_geom_ValidRect (F : Nat) (Post : AVal UU → Prop) (a0_X : Int) (a0_Y : Int) (a0_W : Int) (a0_H : Int) : exec C_geom_ValidRect_1 Try.f54.ntmps M_geom_ValidRect F 0 (bo Try.f54) (initSt [.agg [.int .i64 a0_X, .int .i64 a0_Y, .int .i64 a0_W, .int .i64 a0_H]]) (AEnds C_geom_ValidRect_1 false Try.f54 Post) = g_geom_ValidRect_e a0_X a0_Y a0_W a0_H (fun r0 => Post (.bool r0)) := by kernel_rfl
theorem exec_geom_ValidRect (F : Nat) (Post : AVal UU → Prop) (a0_X : Int) (a0_Y : Int) (a0_W : Int) (a0_H : Int) : exec C_geom_ValidRect_1 Try.f54.ntmps M_geom_ValidRect F 0 (bo Try.f54) (initSt [.agg [.int .i64 a0_X, .int .i64 a0_Y, .int .i64 a0_W, .int .i64 a0_H]]) (AEnds C_geom_ValidRect_1 false Try.f54 Post) = w_geom_ValidRect F a0_X a0_Y a0_W a0_H (fun r0 => Post (.bool r0)) := by
  rw [entry_geom_ValidRect]
  rfl
def m_geom_ValidRect : Model UU
  | [.agg [.int .i64 a0_X, .int .i64 a0_Y, .int .i64 a0_W, .int .i64 a0_H]] => some ([], .bool (sp_geom_ValidRect a0_X a0_Y a0_W a0_H))
  | _ => none
def C_geom_ValidRect : Cfg UU := C_geom_ValidRect_1.add 54 m_geom_ValidRect
theorem s_geom_ValidRect : SumOK C_geom_ValidRect := by
  refine s_geom_ValidRect_1.addD mixed (fn := Try.f54) (c := bo Try.f54) Try.func54 (by kernel_rfl) (by kernel_rfl) ?_
  intro xs cs r h hc
  unfold m_geom_ValidRect at h
  split at h
  · rename_i a0_X a0_Y a0_W a0_H
    cases h
    obtain ⟨F, hF⟩ := ok_geom_ValidRect a0_X a0_Y a0_W a0_H
    refine ⟨by kernel_rfl, M_geom_ValidRect, F, false, ⟨?_⟩⟩
    rw [exec_geom_ValidRect]
    refine hF _ ?_
    rfl
  · cases h
set_option maxRecDepth 100000 in
theorem entry_ref01_within (F : Nat) (Post : AVal UU → Prop) (a0 : Int) (a1 : Int) (a2 : Int) : exec C_geom_ValidRect Try.f94.ntmps M_ref01_within F 0 (bo Try.f94) (initSt [.int .i64 a0, .int .i64 a1, .int .i64 a2]) (AEnds C_geom_ValidRect false Try.f94 Post) = g_ref01_within_e a0 a1 a2 (fun r0 => Post (.bool r0)) := by kernel_rfl
theorem exec_ref01_within (F : Nat) (Post : AVal UU → Prop) (a0 : Int) (a1 : Int) (a2 : Int) : exec C_geom_ValidRect Try.f94.ntmps M_ref01_within F 0 (bo Try.f94) (initSt [.int .i64 a0, .int .i64 a1, .int .i64 a2]) (AEnds C_geom_ValidRect false Try.f94 Post) = w_ref01_within F a0 a1 a2 (fun r0 => Post (.bool r0)) := by
  rw [entry_ref01_within]
  rfl
def m_ref01_within : Model UU
  | [.int .i64 a0, .int .i64 a1, .int .i64 a2] => some ([], .bool (sp_ref01_within a0 a1 a2))
  | _ => none
def C_ref01_within : Cfg UU := C_geom_ValidRect.add 94 m_ref01_within
theorem s_ref01_within : SumOK C_ref01_within := by
  refine s_geom_ValidRect.addD mixed (fn := Try.f94) (c := bo Try.f94) Try.func94 (by kernel_rfl) (by kernel_rfl) ?_
  intro xs cs r h hc
  unfold m_ref01_within at h
  split at h
  · rename_i a0 a1 a2
    cases h
    obtain ⟨F, hF⟩ := ok_ref01_within a0 a1 a2
    refine ⟨by kernel_rfl, M_ref01_within, F, false, ⟨?_⟩⟩
    rw [exec_ref01_within]
    refine hF _ ?_
    rfl
  · cases h
set_option maxRecDepth 100000 in
theorem entry_ref01_ValidRect (F : Nat) (Post : AVal UU → Prop) (a0_X : Int) (a0_Y : Int) (a0_W : Int) (a0_H : Int) : exec C_ref01_within Try.f88.ntmps M_ref01_ValidRect F 0 (bo Try.f88) (initSt [.agg [.int .i64 a0_X, .int .i64 a0_Y, .int .i64 a0_W, .int .i64 a0_H]]) (AEnds C_ref01_within false Try.f88 Post) = g_ref01_ValidRect_e a0_X a0_Y a0_W a0_H (fun r0 => Post (.bool r0)) := by kernel_rfl
theorem exec_ref01_ValidRect (F : Nat) (Post : AVal UU → Prop) (a0_X : Int) (a0_Y : Int) (a0_W : Int) (a0_H : Int) : exec C_ref01_within Try.f88.ntmps M_ref01_ValidRect F 0 (bo Try.f88) (initSt [.agg [.int .i64 a0_X, .int .i64 a0_Y, .int .i64 a0_W, .int .i64 a0_H]]) (AEnds C_ref01_within false Try.f88 Post) = w_ref01_ValidRect F a0_X a0_Y a0_W a0_H (fun r0 => Post (.bool r0)) := by
  rw [entry_ref01_ValidRect]
  rfl
def m_ref01_ValidRect : Model UU
  | [.agg [.int .i64 a0_X, .int .i64 a0_Y, .int .i64 a0_W, .int .i64 a0_H]] => some ([], .bool (sp_ref01_ValidRect a0_X a0_Y a0_W a0_H))
  | _ => none
def C_ref01_ValidRect : Cfg UU := C_ref01_within.add 88 m_ref01_ValidRect
theorem s_ref01_ValidRect : SumOK C_ref01_ValidRect := by
  refine s_ref01_within.addD mixed (fn := Try.f88) (c := bo Try.f88) Try.func88 (by kernel_rfl) (by kernel_rfl) ?_
  intro xs cs r h hc
  unfold m_ref01_ValidRect at h
  split at h
  · rename_i a0_X a0_Y a0_W a0_H
    cases h
    obtain ⟨F, hF⟩ := ok_ref01_ValidRect a0_X a0_Y a0_W a0_H
    refine ⟨by kernel_rfl, M_ref01_ValidRect, F, false, ⟨?_⟩⟩
    rw [exec_ref01_ValidRect]
    refine hF _ ?_
    rfl
  · cases h
set_option maxRecDepth 100000 in
theorem entry_ref03_lineIn (F : Nat) (Post : AVal UU → Prop) (a0_X1 : Int) (a0_Y1 : Int) (a0_X2 : Int) (a0_Y2 : Int) : exec C_ref01_ValidRect Try.f57.ntmps M_ref03_lineIn F 0 (bo Try.f57) (initSt [.agg [.int .i64 a0_X1, .int .i64 a0_Y1, .int .i64 a0_X2, .int .i64 a0_Y2]]) (AEnds C_ref01_ValidRect false Try.f57 Post) = g_ref03_lineIn_e a0_X1 a0_Y1 a0_X2 a0_Y2 (fun r0 => Post (.bool r0)) := by kernel_rfl
theorem exec_ref03_lineIn (F : Nat) (Post : AVal UU → Prop) (a0_X1 : Int) (a0_Y1 : Int) (a0_X2 : Int) (a0_Y2 : Int) : exec C_ref01_ValidRect Try.f57.ntmps M_ref03_lineIn F 0 (bo Try.f57) (initSt [.agg [.int .i64 a0_X1, .int .i64 a0_Y1, .int .i64 a0_X2, .int .i64 a0_Y2]]) (AEnds C_ref01_ValidRect false Try.f57 Post) = w_ref03_lineIn F a0_X1 a0_Y1 a0_X2 a0_Y2 (fun r0 => Post (.bool r0)) := by
  rw [entry_ref03_lineIn]
  rfl
def m_ref03_lineIn : Model UU
  | [.agg [.int .i64 a0_X1, .int .i64 a0_Y1, .int .i64 a0_X2, .int .i64 a0_Y2]] => some ([], .bool (sp_ref03_lineIn a0_X1 a0_Y1 a0_X2 a0_Y2))
  | _ => none
def C_ref03_lineIn : Cfg UU := C_ref01_ValidRect.add 57 m_ref03_lineIn
theorem s_ref03_lineIn : SumOK C_ref03_lineIn := by
  refine s_ref01_ValidRect.addD mixed (fn := Try.f57) (c := bo Try.f57) Try.func57 (by kernel_rfl) (by kernel_rfl) ?_
  intro xs cs r h hc
  unfold m_ref03_lineIn at h
  split at h
  · rename_i a0_X1 a0_Y1 a0_X2 a0_Y2
    cases h
    obtain ⟨F, hF⟩ := ok_ref03_lineIn a0_X1 a0_Y1 a0_X2 a0_Y2
    refine ⟨by kernel_rfl, M_ref03_lineIn, F, false, ⟨?_⟩⟩
    rw [exec_ref03_lineIn]
    refine hF _ ?_
    rfl
  · cases h
set_option maxRecDepth 100000 in
theorem entry_flat_settled_1 (F : Nat) (Post : AVal UU → Prop) (a0_X : Int) (a0_Y : Int) (a0_W : Int) (a0_H : Int) (b_X : Int) (b_Y : Int) (b_W : Int) (b_H : Int) : exec C_ref03_lineIn Try.f59.ntmps M_flat_settled_1 F 0 (bo Try.f59) (initSt [.agg [.int .i64 a0_X, .int .i64 a0_Y, .int .i64 a0_W, .int .i64 a0_H], .ref [.int .i64 b_X, .int .i64 b_Y, .int .i64 b_W, .int .i64 b_H] 0]) (AEnds C_ref03_lineIn false Try.f59 Post) = g_flat_settled_1_e a0_X a0_Y a0_W a0_H b_X b_Y b_W b_H (fun r0_X r0_Y r0_W r0_H => Post (.agg [.int .i64 r0_X, .int .i64 r0_Y, .int .i64 r0_W, .int .i64 r0_H])) := by kernel_rfl
theorem exec_flat_settled_1 (F : Nat) (Post : AVal UU → Prop) (a0_X : Int) (a0_Y : Int) (a0_W : Int) (a0_H : Int) (b_X : Int) (b_Y : Int) (b_W : Int) (b_H : Int) : exec C_ref03_lineIn Try.f59.ntmps M_flat_settled_1 F 0 (bo Try.f59) (initSt [.agg [.int .i64 a0_X, .int .i64 a0_Y, .int .i64 a0_W, .int .i64 a0_H], .ref [.int .i64 b_X, .int .i64 b_Y, .int .i64 b_W, .int .i64 b_H] 0]) (AEnds C_ref03_lineIn false Try.f59 Post) = w_flat_settled_1 F a0_X a0_Y a0_W a0_H b_X b_Y b_W b_H (fun r0_X r0_Y r0_W r0_H => Post (.agg [.int .i64 r0_X, .int .i64 r0_Y, .int .i64 r0_W, .int .i64 r0_H])) := by
  rw [entry_flat_settled_1]
  rfl
def m_flat_settled_1 : Model UU
  | [.agg [.int .i64 a0_X, .int .i64 a0_Y, .int .i64 a0_W, .int .i64 a0_H], .ref [.int .i64 b_X, .int .i64 b_Y, .int .i64 b_W, .int .i64 b_H] 0] => some ([], .agg [.int .i64 ((sp_flat_settled_1 a0_X a0_Y a0_W a0_H b_X b_Y b_W b_H).1), .int .i64 ((sp_flat_settled_1 a0_X a0_Y a0_W a0_H b_X b_Y b_W b_H).2.1), .int .i64 ((sp_flat_settled_1 a0_X a0_Y a0_W a0_H b_X b_Y b_W b_H).2.2.1), .int .i64 ((sp_flat_settled_1 a0_X a0_Y a0_W a0_H b_X b_Y b_W b_H).2.2.2)])
  | _ => none
def C_flat_settled_1 : Cfg UU := C_ref03_lineIn.add 59 m_flat_settled_1
theorem s_flat_settled_1 : SumOK C_flat_settled_1 := by
  refine s_ref03_lineIn.addD mixed (fn := Try.f59) (c := bo Try.f59) Try.func59 (by kernel_rfl) (by kernel_rfl) ?_
  intro xs cs r h hc
  unfold m_flat_settled_1 at h
  split at h
  · rename_i a0_X a0_Y a0_W a0_H b_X b_Y b_W b_H
    cases h
    obtain ⟨F, hF⟩ := ok_flat_settled_1 a0_X a0_Y a0_W a0_H b_X b_Y b_W b_H
    refine ⟨by kernel_rfl, M_flat_settled_1, F, false, ⟨?_⟩⟩
    rw [exec_flat_settled_1]
    refine hF _ ?_
    rfl
  · cases h
set_option maxRecDepth 100000 in
theorem entry_flat_settled_2 (F : Nat) (Post : AVal UU → Prop) (a0_X1 : Int) (a0_Y1 : Int) (a0_X2 : Int) (a0_Y2 : Int) (b_X : Int) (b_Y : Int) (b_W : Int) (b_H : Int) : exec C_flat_settled_1 Try.f60.ntmps M_flat_settled_2 F 0 (bo Try.f60) (initSt [.agg [.int .i64 a0_X1, .int .i64 a0_Y1, .int .i64 a0_X2, .int .i64 a0_Y2], .ref [.int .i64 b_X, .int .i64 b_Y, .int .i64 b_W, .int .i64 b_H] 0]) (AEnds C_flat_settled_1 false Try.f60 Post) = g_flat_settled_2_e a0_X1 a0_Y1 a0_X2 a0_Y2 b_X b_Y b_W b_H (fun r0_X1 r0_Y1 r0_X2 r0_Y2 => Post (.agg [.int .i64 r0_X1, .int .i64 r0_Y1, .int .i64 r0_X2, .int .i64 r0_Y2])) := by kernel_rfl
theorem exec_flat_settled_2 (F : Nat) (Post : AVal UU → Prop) (a0_X1 : Int) (a0_Y1 : Int) (a0_X2 : Int) (a0_Y2 : Int) (b_X : Int) (b_Y : Int) (b_W : Int) (b_H : Int) : exec C_flat_settled_1 Try.f60.ntmps M_flat_settled_2 F 0 (bo Try.f60) (initSt [.agg [.int .i64 a0_X1, .int .i64 a0_Y1, .int .i64 a0_X2, .int .i64 a0_Y2], .ref [.int .i64 b_X, .int .i64 b_Y, .int .i64 b_W, .int .i64 b_H] 0]) (AEnds C_flat_settled_1 false Try.f60 Post) = w_flat_settled_2 F a0_X1 a0_Y1 a0_X2 a0_Y2 b_X b_Y b_W b_H (fun r0_X1 r0_Y1 r0_X2 r0_Y2 => Post (.agg [.int .i64 r0_X1, .int .i64 r0_Y1, .int .i64 r0_X2, .int .i64 r0_Y2])) := by
  rw [entry_flat_settled_2]
  rfl
def m_flat_settled_2 : Model UU
  | [.agg [.int .i64 a0_X1, .int .i64 a0_Y1, .int .i64 a0_X2, .int .i64 a0_Y2], .ref [.int .i64 b_X, .int .i64 b_Y, .int .i64 b_W, .int .i64 b_H] 0] => some ([], .agg [.int .i64 ((sp_flat_settled_2 a0_X1 a0_Y1 a0_X2 a0_Y2 b_X b_Y b_W b_H).1), .int .i64 ((sp_flat_settled_2 a0_X1 a0_Y1 a0_X2 a0_Y2 b_X b_Y b_W b_H).2.1), .int .i64 ((sp_flat_settled_2 a0_X1 a0_Y1 a0_X2 a0_Y2 b_X b_Y b_W b_H).2.2.1), .int .i64 ((sp_flat_settled_2 a0_X1 a0_Y1 a0_X2 a0_Y2 b_X b_Y b_W b_H).2.2.2)])
  | _ => none
def C_flat_settled_2 : Cfg UU := C_flat_settled_1.add 60 m_flat_settled_2
theorem s_flat_settled_2 : SumOK C_flat_settled_2 := by
  refine s_flat_settled_1.addD mixed (fn := Try.f60) (c := bo Try.f60) Try.func60 (by kernel_rfl) (by kernel_rfl) ?_
  intro xs cs r h hc
  unfold m_flat_settled_2 at h
  split at h
  · rename_i a0_X1 a0_Y1 a0_X2 a0_Y2 b_X b_Y b_W b_H
    cases h
    obtain ⟨F, hF⟩ := ok_flat_settled_2 a0_X1 a0_Y1 a0_X2 a0_Y2 b_X b_Y b_W b_H
    refine ⟨by kernel_rfl, M_flat_settled_2, F, false, ⟨?_⟩⟩
    rw [exec_flat_settled_2]
    refine hF _ ?_
    rfl
  · cases h
set_option maxRecDepth 100000 in
theorem entry_flat_quarter_1 (F : Nat) (Post : AVal UU → Prop) (a0_X : Int) (a0_Y : Int) (a0_W : Int) (a0_H : Int) : exec C_flat_settled_2 Try.f63.ntmps M_flat_quarter_1 F 0 (bo Try.f63) (initSt [.agg [.int .i64 a0_X, .int .i64 a0_Y, .int .i64 a0_W, .int .i64 a0_H]]) (AEnds C_flat_settled_2 false Try.f63 Post) = g_flat_quarter_1_e a0_X a0_Y a0_W a0_H (fun r0_X r0_Y r0_W r0_H => Post (.agg [.int .i64 r0_X, .int .i64 r0_Y, .int .i64 r0_W, .int .i64 r0_H])) := by kernel_rfl
theorem exec_flat_quarter_1 (F : Nat) (Post : AVal UU → Prop) (a0_X : Int) (a0_Y : Int) (a0_W : Int) (a0_H : Int) : exec C_flat_settled_2 Try.f63.ntmps M_flat_quarter_1 F 0 (bo Try.f63) (initSt [.agg [.int .i64 a0_X, .int .i64 a0_Y, .int .i64 a0_W, .int .i64 a0_H]]) (AEnds C_flat_settled_2 false Try.f63 Post) = w_flat_quarter_1 F a0_X a0_Y a0_W a0_H (fun r0_X r0_Y r0_W r0_H => Post (.agg [.int .i64 r0_X, .int .i64 r0_Y, .int .i64 r0_W, .int .i64 r0_H])) := by
  rw [entry_flat_quarter_1]
  rfl
def m_flat_quarter_1 : Model UU
  | [.agg [.int .i64 a0_X, .int .i64 a0_Y, .int .i64 a0_W, .int .i64 a0_H]] => some ([], .agg [.int .i64 ((sp_flat_quarter_1 a0_X a0_Y a0_W a0_H).1), .int .i64 ((sp_flat_quarter_1 a0_X a0_Y a0_W a0_H).2.1), .int .i64 ((sp_flat_quarter_1 a0_X a0_Y a0_W a0_H).2.2.1), .int .i64 ((sp_flat_quarter_1 a0_X a0_Y a0_W a0_H).2.2.2)])
  | _ => none
def C_flat_quarter_1 : Cfg UU := C_flat_settled_2.add 63 m_flat_quarter_1
theorem s_flat_quarter_1 : SumOK C_flat_quarter_1 := by
  refine s_flat_settled_2.addD mixed (fn := Try.f63) (c := bo Try.f63) Try.func63 (by kernel_rfl) (by kernel_rfl) ?_
  intro xs cs r h hc
  unfold m_flat_quarter_1 at h
  split at h
  · rename_i a0_X a0_Y a0_W a0_H
    cases h
    obtain ⟨F, hF⟩ := ok_flat_quarter_1 a0_X a0_Y a0_W a0_H
    refine ⟨by kernel_rfl, M_flat_quarter_1, F, false, ⟨?_⟩⟩
    rw [exec_flat_quarter_1]
    refine hF _ ?_
    rfl
  · cases h
set_option maxRecDepth 100000 in
theorem entry_flat_quarter_2 (F : Nat) (Post : AVal UU → Prop) (a0_X1 : Int) (a0_Y1 : Int) (a0_X2 : Int) (a0_Y2 : Int) : exec C_flat_quarter_1 Try.f64.ntmps M_flat_quarter_2 F 0 (bo Try.f64) (initSt [.agg [.int .i64 a0_X1, .int .i64 a0_Y1, .int .i64 a0_X2, .int .i64 a0_Y2]]) (AEnds C_flat_quarter_1 false Try.f64 Post) = g_flat_quarter_2_e a0_X1 a0_Y1 a0_X2 a0_Y2 (fun r0_X1 r0_Y1 r0_X2 r0_Y2 => Post (.agg [.int .i64 r0_X1, .int .i64 r0_Y1, .int .i64 r0_X2, .int .i64 r0_Y2])) := by kernel_rfl
theorem exec_flat_quarter_2 (F : Nat) (Post : AVal UU → Prop) (a0_X1 : Int) (a0_Y1 : Int) (a0_X2 : Int) (a0_Y2 : Int) : exec C_flat_quarter_1 Try.f64.ntmps M_flat_quarter_2 F 0 (bo Try.f64) (initSt [.agg [.int .i64 a0_X1, .int .i64 a0_Y1, .int .i64 a0_X2, .int .i64 a0_Y2]]) (AEnds C_flat_quarter_1 false Try.f64 Post) = w_flat_quarter_2 F a0_X1 a0_Y1 a0_X2 a0_Y2 (fun r0_X1 r0_Y1 r0_X2 r0_Y2 => Post (.agg [.int .i64 r0_X1, .int .i64 r0_Y1, .int .i64 r0_X2, .int .i64 r0_Y2])) := by
  rw [entry_flat_quarter_2]
  rfl
def m_flat_quarter_2 : Model UU
  | [.agg [.int .i64 a0_X1, .int .i64 a0_Y1, .int .i64 a0_X2, .int .i64 a0_Y2]] => some ([], .agg [.int .i64 ((sp_flat_quarter_2 a0_X1 a0_Y1 a0_X2 a0_Y2).1), .int .i64 ((sp_flat_quarter_2 a0_X1 a0_Y1 a0_X2 a0_Y2).2.1), .int .i64 ((sp_flat_quarter_2 a0_X1 a0_Y1 a0_X2 a0_Y2).2.2.1), .int .i64 ((sp_flat_quarter_2 a0_X1 a0_Y1 a0_X2 a0_Y2).2.2.2)])
  | _ => none
def C_flat_quarter_2 : Cfg UU := C_flat_quarter_1.add 64 m_flat_quarter_2
theorem s_flat_quarter_2 : SumOK C_flat_quarter_2 := by
  refine s_flat_quarter_1.addD mixed (fn := Try.f64) (c := bo Try.f64) Try.func64 (by kernel_rfl) (by kernel_rfl) ?_
  intro xs cs r h hc
  unfold m_flat_quarter_2 at h
  split at h
  · rename_i a0_X1 a0_Y1 a0_X2 a0_Y2
    cases h
    obtain ⟨F, hF⟩ := ok_flat_quarter_2 a0_X1 a0_Y1 a0_X2 a0_Y2
    refine ⟨by kernel_rfl, M_flat_quarter_2, F, false, ⟨?_⟩⟩
    rw [exec_flat_quarter_2]
    refine hF _ ?_
    rfl
  · cases h
end
end Go.Proofs.Ytohecfbnmmgimaa
