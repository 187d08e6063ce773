/- That the code says what the printed pieces say, by the kernel; printed by gen.py. Conditions: none. -/
import Derived.Test.YtohecfbnmmgimaaHC
import Derived.Test.YtohecfbnmmgimaaTB
namespace Go.Proofs.Ytohecfbnmmgimaa
open Go.Vm Go.RowKit
set_option linter.unusedVariables false
noncomputable section
def k_flat_rational_reduced_0 (F : Nat) (Post : AVal UU → Prop) : AEx → ASt UU → Prop := kBlock 0 (kSeq C_ref03_Validate Try.f53.ntmps M_flat_rational_reduced F 0 (cS (cS (cS (cS (bo Try.f53))))) (AEnds C_ref03_Validate false Try.f53 Post))
set_option maxRecDepth 100000 in
theorem step_flat_rational_reduced_0 (F n r : Nat) (K : AEx → ASt UU → Prop) (t3 : Int) (t4 : Int) (c1_0 : Int) (c1_1 : Int) (c2_0 : Int) (c2_1 : Int) : iter (exec C_ref03_Validate Try.f53.ntmps M_flat_rational_reduced F 0 (cL (cB (cF (cS (cS (cS (bo Try.f53)))))))) (M_flat_rational_reduced 0) (n + 1) r (st_flat_rational_reduced_0 t3 t4 c1_0 c1_1 c2_0 c2_1) K = g_flat_rational_reduced_s0 (fun t3 t4 c1_0 c1_1 c2_0 c2_1 => iter (exec C_ref03_Validate Try.f53.ntmps M_flat_rational_reduced F 0 (cL (cB (cF (cS (cS (cS (bo Try.f53)))))))) (M_flat_rational_reduced 0) n (r + 1) (st_flat_rational_reduced_0 t3 t4 c1_0 c1_1 c2_0 c2_1) K) (fun t3 t4 c1_0 c1_1 c2_0 c2_1 => K (.exit 0) (st_flat_rational_reduced_0 t3 t4 c1_0 c1_1 c2_0 c2_1)) t3 t4 c1_0 c1_1 c2_0 c2_1 := by kernel_rfl
set_option maxRecDepth 100000 in
theorem cont_flat_rational_reduced_0_0 (F : Nat) (Post : AVal UU → Prop) (t3 : Int) (t4 : Int) (c1_0 : Int) (c1_1 : Int) (c2_0 : Int) (c2_1 : Int) : k_flat_rational_reduced_0 F Post (.exit 0) (st_flat_rational_reduced_0 t3 t4 c1_0 c1_1 c2_0 c2_1) = g_flat_rational_reduced_c0_0 (fun r0_num r0_den => Post (.agg [.int .i64 r0_num, .int .i64 r0_den])) t3 t4 c1_0 c1_1 c2_0 c2_1 := by kernel_rfl
set_option maxRecDepth 100000 in
theorem entry_flat_rational_reduced (F : Nat) (Post : AVal UU → Prop) (a0_num : Int) (a0_den : Int) : exec C_ref03_Validate Try.f53.ntmps M_flat_rational_reduced F 0 (bo Try.f53) (initSt [.agg [.int .i64 a0_num, .int .i64 a0_den]]) (AEnds C_ref03_Validate false Try.f53 Post) = g_flat_rational_reduced_e a0_num a0_den (fun r0_num r0_den => Post (.agg [.int .i64 r0_num, .int .i64 r0_den])) (fun t3 t4 c1_0 c1_1 c2_0 c2_1 => iter (exec C_ref03_Validate Try.f53.ntmps M_flat_rational_reduced F 0 (cL (cB (cF (cS (cS (cS (bo Try.f53)))))))) (M_flat_rational_reduced 0) F 0 (st_flat_rational_reduced_0 t3 t4 c1_0 c1_1 c2_0 c2_1) (k_flat_rational_reduced_0 F Post)) := by kernel_rfl
theorem loop_flat_rational_reduced_0 (F : Nat) (K : AEx → ASt UU → Prop) : ∀ (n r : Nat) (t3 : Int) (t4 : Int) (c1_0 : Int) (c1_1 : Int) (c2_0 : Int) (c2_1 : Int), iter (exec C_ref03_Validate Try.f53.ntmps M_flat_rational_reduced F 0 (cL (cB (cF (cS (cS (cS (bo Try.f53)))))))) (M_flat_rational_reduced 0) n r (st_flat_rational_reduced_0 t3 t4 c1_0 c1_1 c2_0 c2_1) K = w_flat_rational_reduced_0 F  (fun t3 t4 c1_0 c1_1 c2_0 c2_1 => K (.exit 0) (st_flat_rational_reduced_0 t3 t4 c1_0 c1_1 c2_0 c2_1)) n t3 t4 c1_0 c1_1 c2_0 c2_1 := by
  intro n
  induction n with
  | zero => intros; rfl
  | succ n ih =>
    intro r t3 t4 c1_0 c1_1 c2_0 c2_1
    have e : (fun t3 t4 c1_0 c1_1 c2_0 c2_1 => iter (exec C_ref03_Validate Try.f53.ntmps M_flat_rational_reduced F 0 (cL (cB (cF (cS (cS (cS (bo Try.f53)))))))) (M_flat_rational_reduced 0) n (r + 1) (st_flat_rational_reduced_0 t3 t4 c1_0 c1_1 c2_0 c2_1) K) = w_flat_rational_reduced_0 F  (fun t3 t4 c1_0 c1_1 c2_0 c2_1 => K (.exit 0) (st_flat_rational_reduced_0 t3 t4 c1_0 c1_1 c2_0 c2_1)) n := by
      funext t3 t4 c1_0 c1_1 c2_0 c2_1
      exact ih (r + 1) t3 t4 c1_0 c1_1 c2_0 c2_1
    rw [step_flat_rational_reduced_0, e]
    rfl
theorem nl_flat_rational_reduced_0 (F : Nat) (Post : AVal UU → Prop) (t3 : Int) (t4 : Int) (c1_0 : Int) (c1_1 : Int) (c2_0 : Int) (c2_1 : Int) : iter (exec C_ref03_Validate Try.f53.ntmps M_flat_rational_reduced F 0 (cL (cB (cF (cS (cS (cS (bo Try.f53)))))))) (M_flat_rational_reduced 0) F 0 (st_flat_rational_reduced_0 t3 t4 c1_0 c1_1 c2_0 c2_1) (k_flat_rational_reduced_0 F Post) = n_flat_rational_reduced_0 F (fun r0_num r0_den => Post (.agg [.int .i64 r0_num, .int .i64 r0_den])) t3 t4 c1_0 c1_1 c2_0 c2_1 := by
  rw [loop_flat_rational_reduced_0]
  have h0 : (fun t3 t4 c1_0 c1_1 c2_0 c2_1 => k_flat_rational_reduced_0 F Post (.exit 0) (st_flat_rational_reduced_0 t3 t4 c1_0 c1_1 c2_0 c2_1)) = (fun t3 t4 c1_0 c1_1 c2_0 c2_1 => g_flat_rational_reduced_c0_0 (fun r0_num r0_den => Post (.agg [.int .i64 r0_num, .int .i64 r0_den])) t3 t4 c1_0 c1_1 c2_0 c2_1) := by
    funext t3 t4 c1_0 c1_1 c2_0 c2_1
    rw [cont_flat_rational_reduced_0_0]
  rw [h0]
  rfl
theorem exec_flat_rational_reduced (F : Nat) (Post : AVal UU → Prop) (a0_num : Int) (a0_den : Int) : exec C_ref03_Validate Try.f53.ntmps M_flat_rational_reduced F 0 (bo Try.f53) (initSt [.agg [.int .i64 a0_num, .int .i64 a0_den]]) (AEnds C_ref03_Validate false Try.f53 Post) = w_flat_rational_reduced F a0_num a0_den (fun r0_num r0_den => Post (.agg [.int .i64 r0_num, .int .i64 r0_den])) := by
  rw [entry_flat_rational_reduced]
  have e0 : (fun t3 t4 c1_0 c1_1 c2_0 c2_1 => iter (exec C_ref03_Validate Try.f53.ntmps M_flat_rational_reduced F 0 (cL (cB (cF (cS (cS (cS (bo Try.f53)))))))) (M_flat_rational_reduced 0) F 0 (st_flat_rational_reduced_0 t3 t4 c1_0 c1_1 c2_0 c2_1) (k_flat_rational_reduced_0 F Post)) = (n_flat_rational_reduced_0 F (fun r0_num r0_den => Post (.agg [.int .i64 r0_num, .int .i64 r0_den]))) := by
    funext t3 t4 c1_0 c1_1 c2_0 c2_1
    exact nl_flat_rational_reduced_0 F Post t3 t4 c1_0 c1_1 c2_0 c2_1
  rw [e0]
  rfl
def m_flat_rational_reduced : Model UU
  | [.agg [.int .i64 a0_num, .int .i64 a0_den]] => some ([pre_flat_rational_reduced a0_num a0_den], .agg [.int .i64 ((sp_flat_rational_reduced a0_num a0_den).1), .int .i64 ((sp_flat_rational_reduced a0_num a0_den).2)])
  | _ => none
def C_flat_rational_reduced : Cfg UU := C_ref03_Validate.add 53 m_flat_rational_reduced
theorem s_flat_rational_reduced : SumOK C_flat_rational_reduced := by
  refine s_ref03_Validate.addD mixed (fn := Try.f53) (c := bo Try.f53) Try.func53 (by kernel_rfl) (by kernel_rfl) ?_
  intro xs cs r h hc
  unfold m_flat_rational_reduced at h
  split at h
  · rename_i a0_num a0_den
    cases h
    obtain ⟨F, hF⟩ := ok_flat_rational_reduced a0_num a0_den hc
    refine ⟨by kernel_rfl, M_flat_rational_reduced, F, false, ⟨?_⟩⟩
    rw [exec_flat_rational_reduced]
    refine hF _ ?_
    rfl
  · cases h
def k_ref03_lowest_0 (F : Nat) (Post : AVal UU → Prop) : AEx → ASt UU → Prop := kBlock 0 (kSeq C_flat_rational_reduced Try.f66.ntmps M_ref03_lowest F 0 (cS (cS (cS (cS (bo Try.f66))))) (AEnds C_flat_rational_reduced false Try.f66 Post))
set_option maxRecDepth 100000 in
theorem step_ref03_lowest_0 (F n r : Nat) (K : AEx → ASt UU → Prop) (t0 : Int) (t1 : Int) (t5 : Int) (t6 : Int) (c4_0 : Int) (c4_1 : Int) : iter (exec C_flat_rational_reduced Try.f66.ntmps M_ref03_lowest F 0 (cL (cB (cF (cS (cS (cS (bo Try.f66)))))))) (M_ref03_lowest 0) (n + 1) r (st_ref03_lowest_0 t0 t1 t5 t6 c4_0 c4_1) K = g_ref03_lowest_s0 (fun t0 t1 t5 t6 c4_0 c4_1 => iter (exec C_flat_rational_reduced Try.f66.ntmps M_ref03_lowest F 0 (cL (cB (cF (cS (cS (cS (bo Try.f66)))))))) (M_ref03_lowest 0) n (r + 1) (st_ref03_lowest_0 t0 t1 t5 t6 c4_0 c4_1) K) (fun t0 t1 t5 t6 c4_0 c4_1 => K (.exit 0) (st_ref03_lowest_0 t0 t1 t5 t6 c4_0 c4_1)) t0 t1 t5 t6 c4_0 c4_1 := by kernel_rfl
set_option maxRecDepth 100000 in
theorem cont_ref03_lowest_0_0 (F : Nat) (Post : AVal UU → Prop) (t0 : Int) (t1 : Int) (t5 : Int) (t6 : Int) (c4_0 : Int) (c4_1 : Int) : k_ref03_lowest_0 F Post (.exit 0) (st_ref03_lowest_0 t0 t1 t5 t6 c4_0 c4_1) = g_ref03_lowest_c0_0 (fun r0_Num r0_Den => Post (.agg [.int .i64 r0_Num, .int .i64 r0_Den])) t0 t1 t5 t6 c4_0 c4_1 := by kernel_rfl
set_option maxRecDepth 100000 in
theorem entry_ref03_lowest (F : Nat) (Post : AVal UU → Prop) (a0 : Int) (a1 : Int) : exec C_flat_rational_reduced Try.f66.ntmps M_ref03_lowest F 0 (bo Try.f66) (initSt [.int .i64 a0, .int .i64 a1]) (AEnds C_flat_rational_reduced false Try.f66 Post) = g_ref03_lowest_e a0 a1 (fun r0_Num r0_Den => Post (.agg [.int .i64 r0_Num, .int .i64 r0_Den])) (fun t0 t1 t5 t6 c4_0 c4_1 => iter (exec C_flat_rational_reduced Try.f66.ntmps M_ref03_lowest F 0 (cL (cB (cF (cS (cS (cS (bo Try.f66)))))))) (M_ref03_lowest 0) F 0 (st_ref03_lowest_0 t0 t1 t5 t6 c4_0 c4_1) (k_ref03_lowest_0 F Post)) := by kernel_rfl
theorem loop_ref03_lowest_0 (F : Nat) (K : AEx → ASt UU → Prop) : ∀ (n r : Nat) (t0 : Int) (t1 : Int) (t5 : Int) (t6 : Int) (c4_0 : Int) (c4_1 : Int), iter (exec C_flat_rational_reduced Try.f66.ntmps M_ref03_lowest F 0 (cL (cB (cF (cS (cS (cS (bo Try.f66)))))))) (M_ref03_lowest 0) n r (st_ref03_lowest_0 t0 t1 t5 t6 c4_0 c4_1) K = w_ref03_lowest_0 F  (fun t0 t1 t5 t6 c4_0 c4_1 => K (.exit 0) (st_ref03_lowest_0 t0 t1 t5 t6 c4_0 c4_1)) n t0 t1 t5 t6 c4_0 c4_1 := by
  intro n
  induction n with
  | zero => intros; rfl
  | succ n ih =>
    intro r t0 t1 t5 t6 c4_0 c4_1
    have e : (fun t0 t1 t5 t6 c4_0 c4_1 => iter (exec C_flat_rational_reduced Try.f66.ntmps M_ref03_lowest F 0 (cL (cB (cF (cS (cS (cS (bo Try.f66)))))))) (M_ref03_lowest 0) n (r + 1) (st_ref03_lowest_0 t0 t1 t5 t6 c4_0 c4_1) K) = w_ref03_lowest_0 F  (fun t0 t1 t5 t6 c4_0 c4_1 => K (.exit 0) (st_ref03_lowest_0 t0 t1 t5 t6 c4_0 c4_1)) n := by
      funext t0 t1 t5 t6 c4_0 c4_1
      exact ih (r + 1) t0 t1 t5 t6 c4_0 c4_1
    rw [step_ref03_lowest_0, e]
    rfl
theorem nl_ref03_lowest_0 (F : Nat) (Post : AVal UU → Prop) (t0 : Int) (t1 : Int) (t5 : Int) (t6 : Int) (c4_0 : Int) (c4_1 : Int) : iter (exec C_flat_rational_reduced Try.f66.ntmps M_ref03_lowest F 0 (cL (cB (cF (cS (cS (cS (bo Try.f66)))))))) (M_ref03_lowest 0) F 0 (st_ref03_lowest_0 t0 t1 t5 t6 c4_0 c4_1) (k_ref03_lowest_0 F Post) = n_ref03_lowest_0 F (fun r0_Num r0_Den => Post (.agg [.int .i64 r0_Num, .int .i64 r0_Den])) t0 t1 t5 t6 c4_0 c4_1 := by
  rw [loop_ref03_lowest_0]
  have h0 : (fun t0 t1 t5 t6 c4_0 c4_1 => k_ref03_lowest_0 F Post (.exit 0) (st_ref03_lowest_0 t0 t1 t5 t6 c4_0 c4_1)) = (fun t0 t1 t5 t6 c4_0 c4_1 => g_ref03_lowest_c0_0 (fun r0_Num r0_Den => Post (.agg [.int .i64 r0_Num, .int .i64 r0_Den])) t0 t1 t5 t6 c4_0 c4_1) := by
    funext t0 t1 t5 t6 c4_0 c4_1
    rw [cont_ref03_lowest_0_0]
  rw [h0]
  rfl
theorem exec_ref03_lowest (F : Nat) (Post : AVal UU → Prop) (a0 : Int) (a1 : Int) : exec C_flat_rational_reduced Try.f66.ntmps M_ref03_lowest F 0 (bo Try.f66) (initSt [.int .i64 a0, .int .i64 a1]) (AEnds C_flat_rational_reduced false Try.f66 Post) = w_ref03_lowest F a0 a1 (fun r0_Num r0_Den => Post (.agg [.int .i64 r0_Num, .int .i64 r0_Den])) := by
  rw [entry_ref03_lowest]
  have e0 : (fun t0 t1 t5 t6 c4_0 c4_1 => iter (exec C_flat_rational_reduced Try.f66.ntmps M_ref03_lowest F 0 (cL (cB (cF (cS (cS (cS (bo Try.f66)))))))) (M_ref03_lowest 0) F 0 (st_ref03_lowest_0 t0 t1 t5 t6 c4_0 c4_1) (k_ref03_lowest_0 F Post)) = (n_ref03_lowest_0 F (fun r0_Num r0_Den => Post (.agg [.int .i64 r0_Num, .int .i64 r0_Den]))) := by
    funext t0 t1 t5 t6 c4_0 c4_1
    exact nl_ref03_lowest_0 F Post t0 t1 t5 t6 c4_0 c4_1
  rw [e0]
  rfl
def m_ref03_lowest : Model UU
  | [.int .i64 a0, .int .i64 a1] => some ([pre_ref03_lowest a0 a1], .agg [.int .i64 ((sp_ref03_lowest a0 a1).1), .int .i64 ((sp_ref03_lowest a0 a1).2)])
  | _ => none
def C_ref03_lowest : Cfg UU := C_flat_rational_reduced.add 66 m_ref03_lowest
theorem s_ref03_lowest : SumOK C_ref03_lowest := by
  refine s_flat_rational_reduced.addD mixed (fn := Try.f66) (c := bo Try.f66) Try.func66 (by kernel_rfl) (by kernel_rfl) ?_
  intro xs cs r h hc
  unfold m_ref03_lowest at h
  split at h
  · rename_i a0 a1
    cases h
    obtain ⟨F, hF⟩ := ok_ref03_lowest a0 a1 hc
    refine ⟨by kernel_rfl, M_ref03_lowest, F, false, ⟨?_⟩⟩
    rw [exec_ref03_lowest]
    refine hF _ ?_
    rfl
  · cases h
end
end Go.Proofs.Ytohecfbnmmgimaa
