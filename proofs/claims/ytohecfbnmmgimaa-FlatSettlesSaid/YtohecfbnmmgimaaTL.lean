/- That the code says what the printed pieces say, by the kernel; printed by gen.py. Conditions: none. -/
import Derived.Test.YtohecfbnmmgimaaGL
import Derived.Test.YtohecfbnmmgimaaTK
namespace Go.Proofs.Ytohecfbnmmgimaa
open Go.Vm Go.RowKit
set_option linter.unusedVariables false
noncomputable section
set_option maxRecDepth 100000 in
theorem entry_ref03_rectsIn (F : Nat) (Post : AVal UU → Prop) (a0 : List Rect) : exec C_ref03_move_point Try.f56.ntmps M_ref03_rectsIn F 0 (bo Try.f56) (initSt [.sl .rect a0]) (AEnds C_ref03_move_point false Try.f56 Post) = g_ref03_rectsIn_e a0 (fun r0 => Post (.bool r0)) := by kernel_rfl
theorem exec_ref03_rectsIn (F : Nat) (Post : AVal UU → Prop) (a0 : List Rect) : exec C_ref03_move_point Try.f56.ntmps M_ref03_rectsIn F 0 (bo Try.f56) (initSt [.sl .rect a0]) (AEnds C_ref03_move_point false Try.f56 Post) = w_ref03_rectsIn F a0 (fun r0 => Post (.bool r0)) := by
  rw [entry_ref03_rectsIn]
  rfl
def m_ref03_rectsIn : Model UU
  | [.sl .rect a0] => some ([], .bool (sp_ref03_rectsIn a0))
  | _ => none
def C_ref03_rectsIn : Cfg UU := C_ref03_move_point.add 56 m_ref03_rectsIn
theorem s_ref03_rectsIn : SumOK C_ref03_rectsIn := by
  refine s_ref03_move_point.addD mixed (fn := Try.f56) (c := bo Try.f56) Try.func56 (by kernel_rfl) (by kernel_rfl) ?_
  intro xs cs r h hc
  unfold m_ref03_rectsIn at h
  split at h
  · rename_i a0
    cases h
    obtain ⟨F, hF⟩ := ok_ref03_rectsIn a0
    refine ⟨by kernel_rfl, M_ref03_rectsIn, F, false, ⟨?_⟩⟩
    rw [exec_ref03_rectsIn]
    refine hF _ ?_
    rfl
  · cases h
set_option maxRecDepth 100000 in
theorem entry_ref03_move_rect (F : Nat) (Post : AVal UU → Prop) (a0_turns : Int) (a0_x : Int) (a0_y : Int) (a1_X : Int) (a1_Y : Int) (a1_W : Int) (a1_H : Int) : exec C_ref03_rectsIn Try.f61.ntmps M_ref03_move_rect F 0 (bo Try.f61) (initSt [.agg [.int .i64 a0_turns, .int .i64 a0_x, .int .i64 a0_y], .agg [.int .i64 a1_X, .int .i64 a1_Y, .int .i64 a1_W, .int .i64 a1_H]]) (AEnds C_ref03_rectsIn false Try.f61 Post) = g_ref03_move_rect_e a0_turns a0_x a0_y a1_X a1_Y a1_W a1_H (fun r0_X r0_Y r0_W r0_H => Post (.agg [.int .i64 r0_X, .int .i64 r0_Y, .int .i64 r0_W, .int .i64 r0_H])) := by kernel_rfl
theorem exec_ref03_move_rect (F : Nat) (Post : AVal UU → Prop) (a0_turns : Int) (a0_x : Int) (a0_y : Int) (a1_X : Int) (a1_Y : Int) (a1_W : Int) (a1_H : Int) : exec C_ref03_rectsIn Try.f61.ntmps M_ref03_move_rect F 0 (bo Try.f61) (initSt [.agg [.int .i64 a0_turns, .int .i64 a0_x, .int .i64 a0_y], .agg [.int .i64 a1_X, .int .i64 a1_Y, .int .i64 a1_W, .int .i64 a1_H]]) (AEnds C_ref03_rectsIn false Try.f61 Post) = w_ref03_move_rect F a0_turns a0_x a0_y a1_X a1_Y a1_W a1_H (fun r0_X r0_Y r0_W r0_H => Post (.agg [.int .i64 r0_X, .int .i64 r0_Y, .int .i64 r0_W, .int .i64 r0_H])) := by
  rw [entry_ref03_move_rect]
  rfl
def m_ref03_move_rect : Model UU
  | [.agg [.int .i64 a0_turns, .int .i64 a0_x, .int .i64 a0_y], .agg [.int .i64 a1_X, .int .i64 a1_Y, .int .i64 a1_W, .int .i64 a1_H]] => some ([pre_ref03_move_rect a0_turns a0_x a0_y a1_X a1_Y a1_W a1_H], .agg [.int .i64 ((sp_ref03_move_rect a0_turns a0_x a0_y a1_X a1_Y a1_W a1_H).1), .int .i64 ((sp_ref03_move_rect a0_turns a0_x a0_y a1_X a1_Y a1_W a1_H).2.1), .int .i64 ((sp_ref03_move_rect a0_turns a0_x a0_y a1_X a1_Y a1_W a1_H).2.2.1), .int .i64 ((sp_ref03_move_rect a0_turns a0_x a0_y a1_X a1_Y a1_W a1_H).2.2.2)])
  | _ => none
def C_ref03_move_rect : Cfg UU := C_ref03_rectsIn.add 61 m_ref03_move_rect
theorem s_ref03_move_rect : SumOK C_ref03_move_rect := by
  refine s_ref03_rectsIn.addD mixed (fn := Try.f61) (c := bo Try.f61) Try.func61 (by kernel_rfl) (by kernel_rfl) ?_
  intro xs cs r h hc
  unfold m_ref03_move_rect at h
  split at h
  · rename_i a0_turns a0_x a0_y a1_X a1_Y a1_W a1_H
    cases h
    obtain ⟨F, hF⟩ := ok_ref03_move_rect a0_turns a0_x a0_y a1_X a1_Y a1_W a1_H hc
    refine ⟨by kernel_rfl, M_ref03_move_rect, F, false, ⟨?_⟩⟩
    rw [exec_ref03_move_rect]
    refine hF _ ?_
    rfl
  · cases h
set_option maxRecDepth 100000 in
theorem entry_ref03_move_line (F : Nat) (Post : AVal UU → Prop) (a0_turns : Int) (a0_x : Int) (a0_y : Int) (a1_X1 : Int) (a1_Y1 : Int) (a1_X2 : Int) (a1_Y2 : Int) : exec C_ref03_move_rect Try.f62.ntmps M_ref03_move_line F 0 (bo Try.f62) (initSt [.agg [.int .i64 a0_turns, .int .i64 a0_x, .int .i64 a0_y], .agg [.int .i64 a1_X1, .int .i64 a1_Y1, .int .i64 a1_X2, .int .i64 a1_Y2]]) (AEnds C_ref03_move_rect false Try.f62 Post) = g_ref03_move_line_e a0_turns a0_x a0_y a1_X1 a1_Y1 a1_X2 a1_Y2 (fun r0_X1 r0_Y1 r0_X2 r0_Y2 => Post (.agg [.int .i64 r0_X1, .int .i64 r0_Y1, .int .i64 r0_X2, .int .i64 r0_Y2])) := by kernel_rfl
theorem exec_ref03_move_line (F : Nat) (Post : AVal UU → Prop) (a0_turns : Int) (a0_x : Int) (a0_y : Int) (a1_X1 : Int) (a1_Y1 : Int) (a1_X2 : Int) (a1_Y2 : Int) : exec C_ref03_move_rect Try.f62.ntmps M_ref03_move_line F 0 (bo Try.f62) (initSt [.agg [.int .i64 a0_turns, .int .i64 a0_x, .int .i64 a0_y], .agg [.int .i64 a1_X1, .int .i64 a1_Y1, .int .i64 a1_X2, .int .i64 a1_Y2]]) (AEnds C_ref03_move_rect false Try.f62 Post) = w_ref03_move_line F a0_turns a0_x a0_y a1_X1 a1_Y1 a1_X2 a1_Y2 (fun r0_X1 r0_Y1 r0_X2 r0_Y2 => Post (.agg [.int .i64 r0_X1, .int .i64 r0_Y1, .int .i64 r0_X2, .int .i64 r0_Y2])) := by
  rw [entry_ref03_move_line]
  rfl
def m_ref03_move_line : Model UU
  | [.agg [.int .i64 a0_turns, .int .i64 a0_x, .int .i64 a0_y], .agg [.int .i64 a1_X1, .int .i64 a1_Y1, .int .i64 a1_X2, .int .i64 a1_Y2]] => some ([pre_ref03_move_line a0_turns a0_x a0_y a1_X1 a1_Y1 a1_X2 a1_Y2], .agg [.int .i64 ((sp_ref03_move_line a0_turns a0_x a0_y a1_X1 a1_Y1 a1_X2 a1_Y2).1), .int .i64 ((sp_ref03_move_line a0_turns a0_x a0_y a1_X1 a1_Y1 a1_X2 a1_Y2).2.1), .int .i64 ((sp_ref03_move_line a0_turns a0_x a0_y a1_X1 a1_Y1 a1_X2 a1_Y2).2.2.1), .int .i64 ((sp_ref03_move_line a0_turns a0_x a0_y a1_X1 a1_Y1 a1_X2 a1_Y2).2.2.2)])
  | _ => none
def C_ref03_move_line : Cfg UU := C_ref03_move_rect.add 62 m_ref03_move_line
theorem s_ref03_move_line : SumOK C_ref03_move_line := by
  refine s_ref03_move_rect.addD mixed (fn := Try.f62) (c := bo Try.f62) Try.func62 (by kernel_rfl) (by kernel_rfl) ?_
  intro xs cs r h hc
  unfold m_ref03_move_line at h
  split at h
  · rename_i a0_turns a0_x a0_y a1_X1 a1_Y1 a1_X2 a1_Y2
    cases h
    obtain ⟨F, hF⟩ := ok_ref03_move_line a0_turns a0_x a0_y a1_X1 a1_Y1 a1_X2 a1_Y2 hc
    refine ⟨by kernel_rfl, M_ref03_move_line, F, false, ⟨?_⟩⟩
    rw [exec_ref03_move_line]
    refine hF _ ?_
    rfl
  · cases h
end
end Go.Proofs.Ytohecfbnmmgimaa
