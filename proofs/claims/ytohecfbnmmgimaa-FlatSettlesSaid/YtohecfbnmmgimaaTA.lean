/- That the code says what the printed pieces say, by the kernel; printed by gen.py. Conditions: none. -/
import Derived.Test.YtohecfbnmmgimaaGA
import Derived.Test.YtohecfbnmmgimaaUn
namespace Go.Proofs.Ytohecfbnmmgimaa
open Go.Vm Go.RowKit
set_option linter.unusedVariables false
noncomputable section
set_option maxRecDepth 100000 in
theorem entry_flat_rightAngle (F : Nat) (Post : AVal UU → Prop) (a0 : Int) : exec C_names Try.f38.ntmps M_flat_rightAngle F 0 (bo Try.f38) (initSt [.int .i64 a0]) (AEnds C_names false Try.f38 Post) = g_flat_rightAngle_e a0 (fun r0 => Post (.bool r0)) := by kernel_rfl
theorem exec_flat_rightAngle (F : Nat) (Post : AVal UU → Prop) (a0 : Int) : exec C_names Try.f38.ntmps M_flat_rightAngle F 0 (bo Try.f38) (initSt [.int .i64 a0]) (AEnds C_names false Try.f38 Post) = w_flat_rightAngle F a0 (fun r0 => Post (.bool r0)) := by
  rw [entry_flat_rightAngle]
  rfl
def m_flat_rightAngle : Model UU
  | [.int .i64 a0] => some ([], .bool (sp_flat_rightAngle a0))
  | _ => none
def C_flat_rightAngle : Cfg UU := C_names.add 38 m_flat_rightAngle
theorem s_flat_rightAngle : SumOK C_flat_rightAngle := by
  refine s_names.addD mixed (fn := Try.f38) (c := bo Try.f38) Try.func38 (by kernel_rfl) (by kernel_rfl) ?_
  intro xs cs r h hc
  unfold m_flat_rightAngle at h
  split at h
  · rename_i a0
    cases h
    obtain ⟨F, hF⟩ := ok_flat_rightAngle a0
    refine ⟨by kernel_rfl, M_flat_rightAngle, F, false, ⟨?_⟩⟩
    rw [exec_flat_rightAngle]
    refine hF _ ?_
    rfl
  · cases h
set_option maxRecDepth 100000 in
theorem entry_flat_rightDen (F : Nat) (Post : AVal UU → Prop) (a0 : Int) : exec C_flat_rightAngle Try.f43.ntmps M_flat_rightDen F 0 (bo Try.f43) (initSt [.int .i64 a0]) (AEnds C_flat_rightAngle false Try.f43 Post) = g_flat_rightDen_e a0 (fun r0 => Post (.bool r0)) := by kernel_rfl
theorem exec_flat_rightDen (F : Nat) (Post : AVal UU → Prop) (a0 : Int) : exec C_flat_rightAngle Try.f43.ntmps M_flat_rightDen F 0 (bo Try.f43) (initSt [.int .i64 a0]) (AEnds C_flat_rightAngle false Try.f43 Post) = w_flat_rightDen F a0 (fun r0 => Post (.bool r0)) := by
  rw [entry_flat_rightDen]
  rfl
def m_flat_rightDen : Model UU
  | [.int .i64 a0] => some ([], .bool (sp_flat_rightDen a0))
  | _ => none
def C_flat_rightDen : Cfg UU := C_flat_rightAngle.add 43 m_flat_rightDen
theorem s_flat_rightDen : SumOK C_flat_rightDen := by
  refine s_flat_rightAngle.addD mixed (fn := Try.f43) (c := bo Try.f43) Try.func43 (by kernel_rfl) (by kernel_rfl) ?_
  intro xs cs r h hc
  unfold m_flat_rightDen at h
  split at h
  · rename_i a0
    cases h
    obtain ⟨F, hF⟩ := ok_flat_rightDen a0
    refine ⟨by kernel_rfl, M_flat_rightDen, F, false, ⟨?_⟩⟩
    rw [exec_flat_rightDen]
    refine hF _ ?_
    rfl
  · cases h
set_option maxRecDepth 100000 in
theorem entry_ref03_within (F : Nat) (Post : AVal UU → Prop) (a0 : Int) (a1 : Int) (a2 : Int) : exec C_flat_rightDen Try.f33.ntmps M_ref03_within F 0 (bo Try.f33) (initSt [.int .i64 a0, .int .i64 a1, .int .i64 a2]) (AEnds C_flat_rightDen false Try.f33 Post) = g_ref03_within_e a0 a1 a2 (fun r0 => Post (.bool r0)) := by kernel_rfl
theorem exec_ref03_within (F : Nat) (Post : AVal UU → Prop) (a0 : Int) (a1 : Int) (a2 : Int) : exec C_flat_rightDen Try.f33.ntmps M_ref03_within F 0 (bo Try.f33) (initSt [.int .i64 a0, .int .i64 a1, .int .i64 a2]) (AEnds C_flat_rightDen false Try.f33 Post) = w_ref03_within F a0 a1 a2 (fun r0 => Post (.bool r0)) := by
  rw [entry_ref03_within]
  rfl
def m_ref03_within : Model UU
  | [.int .i64 a0, .int .i64 a1, .int .i64 a2] => some ([], .bool (sp_ref03_within a0 a1 a2))
  | _ => none
def C_ref03_within : Cfg UU := C_flat_rightDen.add 33 m_ref03_within
theorem s_ref03_within : SumOK C_ref03_within := by
  refine s_flat_rightDen.addD mixed (fn := Try.f33) (c := bo Try.f33) Try.func33 (by kernel_rfl) (by kernel_rfl) ?_
  intro xs cs r h hc
  unfold m_ref03_within at h
  split at h
  · rename_i a0 a1 a2
    cases h
    obtain ⟨F, hF⟩ := ok_ref03_within a0 a1 a2
    refine ⟨by kernel_rfl, M_ref03_within, F, false, ⟨?_⟩⟩
    rw [exec_ref03_within]
    refine hF _ ?_
    rfl
  · cases h
set_option maxRecDepth 100000 in
theorem entry_flat_of (F : Nat) (Post : AVal UU → Prop) (a0_Num : Int) (a0_Den : Int) : exec C_ref03_within Try.f46.ntmps M_flat_of F 0 (bo Try.f46) (initSt [.agg [.int .i64 a0_Num, .int .i64 a0_Den]]) (AEnds C_ref03_within false Try.f46 Post) = g_flat_of_e a0_Num a0_Den (fun r0_num r0_den => Post (.agg [.int .i64 r0_num, .int .i64 r0_den])) := by kernel_rfl
theorem exec_flat_of (F : Nat) (Post : AVal UU → Prop) (a0_Num : Int) (a0_Den : Int) : exec C_ref03_within Try.f46.ntmps M_flat_of F 0 (bo Try.f46) (initSt [.agg [.int .i64 a0_Num, .int .i64 a0_Den]]) (AEnds C_ref03_within false Try.f46 Post) = w_flat_of F a0_Num a0_Den (fun r0_num r0_den => Post (.agg [.int .i64 r0_num, .int .i64 r0_den])) := by
  rw [entry_flat_of]
  rfl
def m_flat_of : Model UU
  | [.agg [.int .i64 a0_Num, .int .i64 a0_Den]] => some ([], .agg [.int .i64 ((sp_flat_of a0_Num a0_Den).1), .int .i64 ((sp_flat_of a0_Num a0_Den).2)])
  | _ => none
def C_flat_of : Cfg UU := C_ref03_within.add 46 m_flat_of
theorem s_flat_of : SumOK C_flat_of := by
  refine s_ref03_within.addD mixed (fn := Try.f46) (c := bo Try.f46) Try.func46 (by kernel_rfl) (by kernel_rfl) ?_
  intro xs cs r h hc
  unfold m_flat_of at h
  split at h
  · rename_i a0_Num a0_Den
    cases h
    obtain ⟨F, hF⟩ := ok_flat_of a0_Num a0_Den
    refine ⟨by kernel_rfl, M_flat_of, F, false, ⟨?_⟩⟩
    rw [exec_flat_of]
    refine hF _ ?_
    rfl
  · cases h
set_option maxRecDepth 100000 in
theorem entry_flat_rational_rat (F : Nat) (Post : AVal UU → Prop) (a0_num : Int) (a0_den : Int) : exec C_flat_of Try.f40.ntmps M_flat_rational_rat F 0 (bo Try.f40) (initSt [.agg [.int .i64 a0_num, .int .i64 a0_den]]) (AEnds C_flat_of false Try.f40 Post) = g_flat_rational_rat_e a0_num a0_den (fun r0_Num r0_Den => Post (.agg [.int .i64 r0_Num, .int .i64 r0_Den])) := by kernel_rfl
theorem exec_flat_rational_rat (F : Nat) (Post : AVal UU → Prop) (a0_num : Int) (a0_den : Int) : exec C_flat_of Try.f40.ntmps M_flat_rational_rat F 0 (bo Try.f40) (initSt [.agg [.int .i64 a0_num, .int .i64 a0_den]]) (AEnds C_flat_of false Try.f40 Post) = w_flat_rational_rat F a0_num a0_den (fun r0_Num r0_Den => Post (.agg [.int .i64 r0_Num, .int .i64 r0_Den])) := by
  rw [entry_flat_rational_rat]
  rfl
def m_flat_rational_rat : Model UU
  | [.agg [.int .i64 a0_num, .int .i64 a0_den]] => some ([], .agg [.int .i64 ((sp_flat_rational_rat a0_num a0_den).1), .int .i64 ((sp_flat_rational_rat a0_num a0_den).2)])
  | _ => none
def C_flat_rational_rat : Cfg UU := C_flat_of.add 40 m_flat_rational_rat
theorem s_flat_rational_rat : SumOK C_flat_rational_rat := by
  refine s_flat_of.addD mixed (fn := Try.f40) (c := bo Try.f40) Try.func40 (by kernel_rfl) (by kernel_rfl) ?_
  intro xs cs r h hc
  unfold m_flat_rational_rat at h
  split at h
  · rename_i a0_num a0_den
    cases h
    obtain ⟨F, hF⟩ := ok_flat_rational_rat a0_num a0_den
    refine ⟨by kernel_rfl, M_flat_rational_rat, F, false, ⟨?_⟩⟩
    rw [exec_flat_rational_rat]
    refine hF _ ?_
    rfl
  · cases h
set_option maxRecDepth 100000 in
theorem entry_flat_valid (F : Nat) (Post : AVal UU → Prop) (a0_Num : Int) (a0_Den : Int) : exec C_flat_rational_rat Try.f45.ntmps M_flat_valid F 0 (bo Try.f45) (initSt [.agg [.int .i64 a0_Num, .int .i64 a0_Den]]) (AEnds C_flat_rational_rat false Try.f45 Post) = g_flat_valid_e a0_Num a0_Den (fun r0 => Post (.bool r0)) := by kernel_rfl
theorem exec_flat_valid (F : Nat) (Post : AVal UU → Prop) (a0_Num : Int) (a0_Den : Int) : exec C_flat_rational_rat Try.f45.ntmps M_flat_valid F 0 (bo Try.f45) (initSt [.agg [.int .i64 a0_Num, .int .i64 a0_Den]]) (AEnds C_flat_rational_rat false Try.f45 Post) = w_flat_valid F a0_Num a0_Den (fun r0 => Post (.bool r0)) := by
  rw [entry_flat_valid]
  rfl
def m_flat_valid : Model UU
  | [.agg [.int .i64 a0_Num, .int .i64 a0_Den]] => some ([], .bool (sp_flat_valid a0_Num a0_Den))
  | _ => none
def C_flat_valid : Cfg UU := C_flat_rational_rat.add 45 m_flat_valid
theorem s_flat_valid : SumOK C_flat_valid := by
  refine s_flat_rational_rat.addD mixed (fn := Try.f45) (c := bo Try.f45) Try.func45 (by kernel_rfl) (by kernel_rfl) ?_
  intro xs cs r h hc
  unfold m_flat_valid at h
  split at h
  · rename_i a0_Num a0_Den
    cases h
    obtain ⟨F, hF⟩ := ok_flat_valid a0_Num a0_Den
    refine ⟨by kernel_rfl, M_flat_valid, F, false, ⟨?_⟩⟩
    rw [exec_flat_valid]
    refine hF _ ?_
    rfl
  · cases h
end
end Go.Proofs.Ytohecfbnmmgimaa
