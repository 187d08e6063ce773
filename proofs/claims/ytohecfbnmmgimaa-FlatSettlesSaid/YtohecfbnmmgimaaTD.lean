/- That the code says what the printed pieces say, by the kernel; printed by gen.py. Conditions: none. -/
import Derived.Test.YtohecfbnmmgimaaGD
import Derived.Test.YtohecfbnmmgimaaTC
namespace Go.Proofs.Ytohecfbnmmgimaa
open Go.Vm Go.RowKit
set_option linter.unusedVariables false
noncomputable section
set_option maxRecDepth 100000 in
theorem entry_flat_rational_times (F : Nat) (Post : AVal UU → Prop) (a0_num : Int) (a0_den : Int) (a1_num : Int) (a1_den : Int) : exec C_ref03_lowest Try.f47.ntmps M_flat_rational_times F 0 (bo Try.f47) (initSt [.agg [.int .i64 a0_num, .int .i64 a0_den], .agg [.int .i64 a1_num, .int .i64 a1_den]]) (AEnds C_ref03_lowest false Try.f47 Post) = g_flat_rational_times_e a0_num a0_den a1_num a1_den (fun r0_num r0_den => Post (.agg [.int .i64 r0_num, .int .i64 r0_den])) := by kernel_rfl
theorem exec_flat_rational_times (F : Nat) (Post : AVal UU → Prop) (a0_num : Int) (a0_den : Int) (a1_num : Int) (a1_den : Int) : exec C_ref03_lowest Try.f47.ntmps M_flat_rational_times F 0 (bo Try.f47) (initSt [.agg [.int .i64 a0_num, .int .i64 a0_den], .agg [.int .i64 a1_num, .int .i64 a1_den]]) (AEnds C_ref03_lowest false Try.f47 Post) = w_flat_rational_times F a0_num a0_den a1_num a1_den (fun r0_num r0_den => Post (.agg [.int .i64 r0_num, .int .i64 r0_den])) := by
  rw [entry_flat_rational_times]
  rfl
def m_flat_rational_times : Model UU
  | [.agg [.int .i64 a0_num, .int .i64 a0_den], .agg [.int .i64 a1_num, .int .i64 a1_den]] => some ([pre_flat_rational_times a0_num a0_den a1_num a1_den], .agg [.int .i64 ((sp_flat_rational_times a0_num a0_den a1_num a1_den).1), .int .i64 ((sp_flat_rational_times a0_num a0_den a1_num a1_den).2)])
  | _ => none
def C_flat_rational_times : Cfg UU := C_ref03_lowest.add 47 m_flat_rational_times
theorem s_flat_rational_times : SumOK C_flat_rational_times := by
  refine s_ref03_lowest.addD mixed (fn := Try.f47) (c := bo Try.f47) Try.func47 (by kernel_rfl) (by kernel_rfl) ?_
  intro xs cs r h hc
  unfold m_flat_rational_times at h
  split at h
  · rename_i a0_num a0_den a1_num a1_den
    cases h
    obtain ⟨F, hF⟩ := ok_flat_rational_times a0_num a0_den a1_num a1_den hc
    refine ⟨by kernel_rfl, M_flat_rational_times, F, false, ⟨?_⟩⟩
    rw [exec_flat_rational_times]
    refine hF _ ?_
    rfl
  · cases h
set_option maxRecDepth 100000 in
theorem entry_flat_rational_plus (F : Nat) (Post : AVal UU → Prop) (a0_num : Int) (a0_den : Int) (a1_num : Int) (a1_den : Int) : exec C_flat_rational_times Try.f65.ntmps M_flat_rational_plus F 0 (bo Try.f65) (initSt [.agg [.int .i64 a0_num, .int .i64 a0_den], .agg [.int .i64 a1_num, .int .i64 a1_den]]) (AEnds C_flat_rational_times false Try.f65 Post) = g_flat_rational_plus_e a0_num a0_den a1_num a1_den (fun r0_num r0_den => Post (.agg [.int .i64 r0_num, .int .i64 r0_den])) := by kernel_rfl
theorem exec_flat_rational_plus (F : Nat) (Post : AVal UU → Prop) (a0_num : Int) (a0_den : Int) (a1_num : Int) (a1_den : Int) : exec C_flat_rational_times Try.f65.ntmps M_flat_rational_plus F 0 (bo Try.f65) (initSt [.agg [.int .i64 a0_num, .int .i64 a0_den], .agg [.int .i64 a1_num, .int .i64 a1_den]]) (AEnds C_flat_rational_times false Try.f65 Post) = w_flat_rational_plus F a0_num a0_den a1_num a1_den (fun r0_num r0_den => Post (.agg [.int .i64 r0_num, .int .i64 r0_den])) := by
  rw [entry_flat_rational_plus]
  rfl
def m_flat_rational_plus : Model UU
  | [.agg [.int .i64 a0_num, .int .i64 a0_den], .agg [.int .i64 a1_num, .int .i64 a1_den]] => some ([pre_flat_rational_plus a0_num a0_den a1_num a1_den], .agg [.int .i64 ((sp_flat_rational_plus a0_num a0_den a1_num a1_den).1), .int .i64 ((sp_flat_rational_plus a0_num a0_den a1_num a1_den).2)])
  | _ => none
def C_flat_rational_plus : Cfg UU := C_flat_rational_times.add 65 m_flat_rational_plus
theorem s_flat_rational_plus : SumOK C_flat_rational_plus := by
  refine s_flat_rational_times.addD mixed (fn := Try.f65) (c := bo Try.f65) Try.func65 (by kernel_rfl) (by kernel_rfl) ?_
  intro xs cs r h hc
  unfold m_flat_rational_plus at h
  split at h
  · rename_i a0_num a0_den a1_num a1_den
    cases h
    obtain ⟨F, hF⟩ := ok_flat_rational_plus a0_num a0_den a1_num a1_den hc
    refine ⟨by kernel_rfl, M_flat_rational_plus, F, false, ⟨?_⟩⟩
    rw [exec_flat_rational_plus]
    refine hF _ ?_
    rfl
  · cases h
set_option maxRecDepth 100000 in
theorem entry_flat_Reduce (F : Nat) (Post : AVal UU → Prop) (a0_Num : Int) (a0_Den : Int) : exec C_flat_rational_plus Try.f26.ntmps M_flat_Reduce F 0 (bo Try.f26) (initSt [.agg [.int .i64 a0_Num, .int .i64 a0_Den]]) (AEnds C_flat_rational_plus false Try.f26 Post) = g_flat_Reduce_e a0_Num a0_Den (fun r0_Num r0_Den r1 => Post (.tup [.agg [.int .i64 r0_Num, .int .i64 r0_Den], .int .i64 r1])) := by kernel_rfl
theorem exec_flat_Reduce (F : Nat) (Post : AVal UU → Prop) (a0_Num : Int) (a0_Den : Int) : exec C_flat_rational_plus Try.f26.ntmps M_flat_Reduce F 0 (bo Try.f26) (initSt [.agg [.int .i64 a0_Num, .int .i64 a0_Den]]) (AEnds C_flat_rational_plus false Try.f26 Post) = w_flat_Reduce F a0_Num a0_Den (fun r0_Num r0_Den r1 => Post (.tup [.agg [.int .i64 r0_Num, .int .i64 r0_Den], .int .i64 r1])) := by
  rw [entry_flat_Reduce]
  rfl
def m_flat_Reduce : Model UU
  | [.agg [.int .i64 a0_Num, .int .i64 a0_Den]] => some ([pre_flat_Reduce a0_Num a0_Den], .tup [.agg [.int .i64 ((sp_flat_Reduce a0_Num a0_Den).1), .int .i64 ((sp_flat_Reduce a0_Num a0_Den).2.1)], .int .i64 ((sp_flat_Reduce a0_Num a0_Den).2.2)])
  | _ => none
def C_flat_Reduce : Cfg UU := C_flat_rational_plus.add 26 m_flat_Reduce
theorem s_flat_Reduce : SumOK C_flat_Reduce := by
  refine s_flat_rational_plus.addD mixed (fn := Try.f26) (c := bo Try.f26) Try.func26 (by kernel_rfl) (by kernel_rfl) ?_
  intro xs cs r h hc
  unfold m_flat_Reduce at h
  split at h
  · rename_i a0_Num a0_Den
    cases h
    obtain ⟨F, hF⟩ := ok_flat_Reduce a0_Num a0_Den hc
    refine ⟨by kernel_rfl, M_flat_Reduce, F, false, ⟨?_⟩⟩
    rw [exec_flat_Reduce]
    refine hF _ ?_
    rfl
  · cases h
end
end Go.Proofs.Ytohecfbnmmgimaa
