/- That the code says what the printed pieces say, by the kernel; printed by gen.py. Conditions: none. -/
import Derived.Test.YtohecfbnmmgimaaGE
import Derived.Test.YtohecfbnmmgimaaTD
namespace Go.Proofs.Ytohecfbnmmgimaa
open Go.Vm Go.RowKit
set_option linter.unusedVariables false
noncomputable section
set_option maxRecDepth 100000 in
theorem entry_flat_Ticks (F : Nat) (Post : AVal UU → Prop) (a0_Num : Int) (a0_Den : Int) : exec C_flat_Reduce Try.f22.ntmps M_flat_Ticks F 0 (bo Try.f22) (initSt [.agg [.int .i64 a0_Num, .int .i64 a0_Den]]) (AEnds C_flat_Reduce false Try.f22 Post) = g_flat_Ticks_e a0_Num a0_Den (fun r0 r1 => Post (.tup [.int .i64 r0, .int .i64 r1])) := by kernel_rfl
theorem exec_flat_Ticks (F : Nat) (Post : AVal UU → Prop) (a0_Num : Int) (a0_Den : Int) : exec C_flat_Reduce Try.f22.ntmps M_flat_Ticks F 0 (bo Try.f22) (initSt [.agg [.int .i64 a0_Num, .int .i64 a0_Den]]) (AEnds C_flat_Reduce false Try.f22 Post) = w_flat_Ticks F a0_Num a0_Den (fun r0 r1 => Post (.tup [.int .i64 r0, .int .i64 r1])) := by
  rw [entry_flat_Ticks]
  rfl
def m_flat_Ticks : Model UU
  | [.agg [.int .i64 a0_Num, .int .i64 a0_Den]] => some ([pre_flat_Ticks a0_Num a0_Den], .tup [.int .i64 ((sp_flat_Ticks a0_Num a0_Den).1), .int .i64 ((sp_flat_Ticks a0_Num a0_Den).2)])
  | _ => none
def C_flat_Ticks : Cfg UU := C_flat_Reduce.add 22 m_flat_Ticks
theorem s_flat_Ticks : SumOK C_flat_Ticks := by
  refine s_flat_Reduce.addD mixed (fn := Try.f22) (c := bo Try.f22) Try.func22 (by kernel_rfl) (by kernel_rfl) ?_
  intro xs cs r h hc
  unfold m_flat_Ticks at h
  split at h
  · rename_i a0_Num a0_Den
    cases h
    obtain ⟨F, hF⟩ := ok_flat_Ticks a0_Num a0_Den hc
    refine ⟨by kernel_rfl, M_flat_Ticks, F, false, ⟨?_⟩⟩
    rw [exec_flat_Ticks]
    refine hF _ ?_
    rfl
  · cases h
end
end Go.Proofs.Ytohecfbnmmgimaa
