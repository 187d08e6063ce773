/- That the code says what the printed pieces say, by the kernel; printed by gen.py. Conditions: none. -/
import Derived.Test.YtohecfbnmmgimaaHB
import Derived.Test.YtohecfbnmmgimaaTA
namespace Go.Proofs.Ytohecfbnmmgimaa
open Go.Vm Go.RowKit
set_option linter.unusedVariables false
noncomputable section
def k_flat_Validate_0 (F : Nat) (Post : AVal UU → Prop) : AEx → ASt UU → Prop := kBlock 0 (kSeq C_flat_valid Try.f20.ntmps M_flat_Validate F 0 (cS (cS (cS (cS (bo Try.f20))))) (AEnds C_flat_valid false Try.f20 Post))
set_option maxRecDepth 100000 in
theorem step_flat_Validate_0 (F n r : Nat) (K : AEx → ASt UU → Prop) (t2 : Int) (t3 : Int) (t43 : List Ent) (t44 : Int) (t45 : Int) : iter (exec C_flat_valid Try.f20.ntmps M_flat_Validate F 0 (cL (cB (cS (cF (cS (cS (cS (bo Try.f20))))))))) (M_flat_Validate 0) (n + 1) r (st_flat_Validate_0 t2 t3 t43 t44 t45) K = g_flat_Validate_s0 (fun t2 t3 t43 t44 t45 => iter (exec C_flat_valid Try.f20.ntmps M_flat_Validate F 0 (cL (cB (cS (cF (cS (cS (cS (bo Try.f20))))))))) (M_flat_Validate 0) n (r + 1) (st_flat_Validate_0 t2 t3 t43 t44 t45) K) (fun t2 t3 t43 t44 t45 => K .ret (st_flat_Validate_0 t2 t3 t43 t44 t45)) (fun t2 t3 t43 t44 t45 => K (.exit 0) (st_flat_Validate_0 t2 t3 t43 t44 t45)) t2 t3 t43 t44 t45 := by kernel_rfl
set_option maxRecDepth 100000 in
theorem cont_flat_Validate_0_0 (F : Nat) (Post : AVal UU → Prop) (t2 : Int) (t3 : Int) (t43 : List Ent) (t44 : Int) (t45 : Int) : k_flat_Validate_0 F Post .ret (st_flat_Validate_0 t2 t3 t43 t44 t45) = g_flat_Validate_c0_0 (fun r0 => Post (.int .i64 r0)) t2 t3 t43 t44 t45 := by kernel_rfl
set_option maxRecDepth 100000 in
theorem cont_flat_Validate_0_1 (F : Nat) (Post : AVal UU → Prop) (t2 : Int) (t3 : Int) (t43 : List Ent) (t44 : Int) (t45 : Int) : k_flat_Validate_0 F Post (.exit 0) (st_flat_Validate_0 t2 t3 t43 t44 t45) = g_flat_Validate_c0_1 (fun r0 => Post (.int .i64 r0)) t2 t3 t43 t44 t45 := by kernel_rfl
set_option maxRecDepth 100000 in
theorem entry_flat_Validate (F : Nat) (Post : AVal UU → Prop) (a0_Material : ByteArray) (a0_Gauge : Int) (a0_Die : Int) (a0_Entries : List Ent) : exec C_flat_valid Try.f20.ntmps M_flat_Validate F 0 (bo Try.f20) (initSt [.agg [.str a0_Material, .int .i64 a0_Gauge, .int .i64 a0_Die, .sl .ent a0_Entries]]) (AEnds C_flat_valid false Try.f20 Post) = g_flat_Validate_e a0_Material a0_Gauge a0_Die a0_Entries (fun r0 => Post (.int .i64 r0)) (fun t2 t3 t43 t44 t45 => iter (exec C_flat_valid Try.f20.ntmps M_flat_Validate F 0 (cL (cB (cS (cF (cS (cS (cS (bo Try.f20))))))))) (M_flat_Validate 0) F 0 (st_flat_Validate_0 t2 t3 t43 t44 t45) (k_flat_Validate_0 F Post)) := by kernel_rfl
theorem loop_flat_Validate_0 (F : Nat) (K : AEx → ASt UU → Prop) : ∀ (n r : Nat) (t2 : Int) (t3 : Int) (t43 : List Ent) (t44 : Int) (t45 : Int), iter (exec C_flat_valid Try.f20.ntmps M_flat_Validate F 0 (cL (cB (cS (cF (cS (cS (cS (bo Try.f20))))))))) (M_flat_Validate 0) n r (st_flat_Validate_0 t2 t3 t43 t44 t45) K = w_flat_Validate_0 F  (fun t2 t3 t43 t44 t45 => K .ret (st_flat_Validate_0 t2 t3 t43 t44 t45)) (fun t2 t3 t43 t44 t45 => K (.exit 0) (st_flat_Validate_0 t2 t3 t43 t44 t45)) n t2 t3 t43 t44 t45 := by
  intro n
  induction n with
  | zero => intros; rfl
  | succ n ih =>
    intro r t2 t3 t43 t44 t45
    have e : (fun t2 t3 t43 t44 t45 => iter (exec C_flat_valid Try.f20.ntmps M_flat_Validate F 0 (cL (cB (cS (cF (cS (cS (cS (bo Try.f20))))))))) (M_flat_Validate 0) n (r + 1) (st_flat_Validate_0 t2 t3 t43 t44 t45) K) = w_flat_Validate_0 F  (fun t2 t3 t43 t44 t45 => K .ret (st_flat_Validate_0 t2 t3 t43 t44 t45)) (fun t2 t3 t43 t44 t45 => K (.exit 0) (st_flat_Validate_0 t2 t3 t43 t44 t45)) n := by
      funext t2 t3 t43 t44 t45
      exact ih (r + 1) t2 t3 t43 t44 t45
    rw [step_flat_Validate_0, e]
    rfl
theorem nl_flat_Validate_0 (F : Nat) (Post : AVal UU → Prop) (t2 : Int) (t3 : Int) (t43 : List Ent) (t44 : Int) (t45 : Int) : iter (exec C_flat_valid Try.f20.ntmps M_flat_Validate F 0 (cL (cB (cS (cF (cS (cS (cS (bo Try.f20))))))))) (M_flat_Validate 0) F 0 (st_flat_Validate_0 t2 t3 t43 t44 t45) (k_flat_Validate_0 F Post) = n_flat_Validate_0 F (fun r0 => Post (.int .i64 r0)) t2 t3 t43 t44 t45 := by
  rw [loop_flat_Validate_0]
  have h0 : (fun t2 t3 t43 t44 t45 => k_flat_Validate_0 F Post .ret (st_flat_Validate_0 t2 t3 t43 t44 t45)) = (fun t2 t3 t43 t44 t45 => g_flat_Validate_c0_0 (fun r0 => Post (.int .i64 r0)) t2 t3 t43 t44 t45) := by
    funext t2 t3 t43 t44 t45
    rw [cont_flat_Validate_0_0]
  have h1 : (fun t2 t3 t43 t44 t45 => k_flat_Validate_0 F Post (.exit 0) (st_flat_Validate_0 t2 t3 t43 t44 t45)) = (fun t2 t3 t43 t44 t45 => g_flat_Validate_c0_1 (fun r0 => Post (.int .i64 r0)) t2 t3 t43 t44 t45) := by
    funext t2 t3 t43 t44 t45
    rw [cont_flat_Validate_0_1]
  rw [h0, h1]
  rfl
theorem exec_flat_Validate (F : Nat) (Post : AVal UU → Prop) (a0_Material : ByteArray) (a0_Gauge : Int) (a0_Die : Int) (a0_Entries : List Ent) : exec C_flat_valid Try.f20.ntmps M_flat_Validate F 0 (bo Try.f20) (initSt [.agg [.str a0_Material, .int .i64 a0_Gauge, .int .i64 a0_Die, .sl .ent a0_Entries]]) (AEnds C_flat_valid false Try.f20 Post) = w_flat_Validate F a0_Material a0_Gauge a0_Die a0_Entries (fun r0 => Post (.int .i64 r0)) := by
  rw [entry_flat_Validate]
  have e0 : (fun t2 t3 t43 t44 t45 => iter (exec C_flat_valid Try.f20.ntmps M_flat_Validate F 0 (cL (cB (cS (cF (cS (cS (cS (bo Try.f20))))))))) (M_flat_Validate 0) F 0 (st_flat_Validate_0 t2 t3 t43 t44 t45) (k_flat_Validate_0 F Post)) = (n_flat_Validate_0 F (fun r0 => Post (.int .i64 r0))) := by
    funext t2 t3 t43 t44 t45
    exact nl_flat_Validate_0 F Post t2 t3 t43 t44 t45
  rw [e0]
  rfl
def m_flat_Validate : Model UU
  | [.agg [.str a0_Material, .int .i64 a0_Gauge, .int .i64 a0_Die, .sl .ent a0_Entries]] => some ([pre_flat_Validate a0_Material a0_Gauge a0_Die a0_Entries], .int .i64 (sp_flat_Validate a0_Material a0_Gauge a0_Die a0_Entries))
  | _ => none
def C_flat_Validate : Cfg UU := C_flat_valid.add 20 m_flat_Validate
theorem s_flat_Validate : SumOK C_flat_Validate := by
  refine s_flat_valid.addD mixed (fn := Try.f20) (c := bo Try.f20) Try.func20 (by kernel_rfl) (by kernel_rfl) ?_
  intro xs cs r h hc
  unfold m_flat_Validate at h
  split at h
  · rename_i a0_Material a0_Gauge a0_Die a0_Entries
    cases h
    obtain ⟨F, hF⟩ := ok_flat_Validate a0_Material a0_Gauge a0_Die a0_Entries hc
    refine ⟨by kernel_rfl, M_flat_Validate, F, false, ⟨?_⟩⟩
    rw [exec_flat_Validate]
    refine hF _ ?_
    rfl
  · cases h
def k_ref03_Validate_0 (F : Nat) (Post : AVal UU → Prop) : AEx → ASt UU → Prop := kBlock 0 (kSeq C_flat_Validate Try.f21.ntmps M_ref03_Validate F 0 (cS (cS (cS (bo Try.f21)))) (AEnds C_flat_Validate false Try.f21 Post))
set_option maxRecDepth 100000 in
theorem step_ref03_Validate_0 (F n r : Nat) (K : AEx → ASt UU → Prop) (t2 : Int) (t3 : Int) (c1_0 : ByteArray) (c1_1 : Int) (c1_2 : Int) (c1_3 : List Ent) : iter (exec C_flat_Validate Try.f21.ntmps M_ref03_Validate F 0 (cL (cB (cS (cF (cS (cS (bo Try.f21)))))))) (M_ref03_Validate 0) (n + 1) r (st_ref03_Validate_0 t2 t3 c1_0 c1_1 c1_2 c1_3) K = g_ref03_Validate_s0 (fun t2 t3 c1_0 c1_1 c1_2 c1_3 => iter (exec C_flat_Validate Try.f21.ntmps M_ref03_Validate F 0 (cL (cB (cS (cF (cS (cS (bo Try.f21)))))))) (M_ref03_Validate 0) n (r + 1) (st_ref03_Validate_0 t2 t3 c1_0 c1_1 c1_2 c1_3) K) (fun t2 t3 c1_0 c1_1 c1_2 c1_3 => K .ret (st_ref03_Validate_0 t2 t3 c1_0 c1_1 c1_2 c1_3)) (fun t2 t3 c1_0 c1_1 c1_2 c1_3 => K (.exit 0) (st_ref03_Validate_0 t2 t3 c1_0 c1_1 c1_2 c1_3)) t2 t3 c1_0 c1_1 c1_2 c1_3 := by kernel_rfl
set_option maxRecDepth 100000 in
theorem cont_ref03_Validate_0_0 (F : Nat) (Post : AVal UU → Prop) (t2 : Int) (t3 : Int) (c1_0 : ByteArray) (c1_1 : Int) (c1_2 : Int) (c1_3 : List Ent) : k_ref03_Validate_0 F Post .ret (st_ref03_Validate_0 t2 t3 c1_0 c1_1 c1_2 c1_3) = g_ref03_Validate_c0_0 (fun r0 => Post (.int .i64 r0)) t2 t3 c1_0 c1_1 c1_2 c1_3 := by kernel_rfl
set_option maxRecDepth 100000 in
theorem cont_ref03_Validate_0_1 (F : Nat) (Post : AVal UU → Prop) (t2 : Int) (t3 : Int) (c1_0 : ByteArray) (c1_1 : Int) (c1_2 : Int) (c1_3 : List Ent) : k_ref03_Validate_0 F Post (.exit 0) (st_ref03_Validate_0 t2 t3 c1_0 c1_1 c1_2 c1_3) = g_ref03_Validate_c0_1 (fun r0 => Post (.int .i64 r0)) t2 t3 c1_0 c1_1 c1_2 c1_3 := by kernel_rfl
set_option maxRecDepth 100000 in
theorem entry_ref03_Validate (F : Nat) (Post : AVal UU → Prop) (a0_Material : ByteArray) (a0_Gauge : Int) (a0_Die : Int) (a0_Entries : List Ent) : exec C_flat_Validate Try.f21.ntmps M_ref03_Validate F 0 (bo Try.f21) (initSt [.agg [.str a0_Material, .int .i64 a0_Gauge, .int .i64 a0_Die, .sl .ent a0_Entries]]) (AEnds C_flat_Validate false Try.f21 Post) = g_ref03_Validate_e a0_Material a0_Gauge a0_Die a0_Entries (fun r0 => Post (.int .i64 r0)) (fun t2 t3 c1_0 c1_1 c1_2 c1_3 => iter (exec C_flat_Validate Try.f21.ntmps M_ref03_Validate F 0 (cL (cB (cS (cF (cS (cS (bo Try.f21)))))))) (M_ref03_Validate 0) F 0 (st_ref03_Validate_0 t2 t3 c1_0 c1_1 c1_2 c1_3) (k_ref03_Validate_0 F Post)) := by kernel_rfl
theorem loop_ref03_Validate_0 (F : Nat) (K : AEx → ASt UU → Prop) : ∀ (n r : Nat) (t2 : Int) (t3 : Int) (c1_0 : ByteArray) (c1_1 : Int) (c1_2 : Int) (c1_3 : List Ent), iter (exec C_flat_Validate Try.f21.ntmps M_ref03_Validate F 0 (cL (cB (cS (cF (cS (cS (bo Try.f21)))))))) (M_ref03_Validate 0) n r (st_ref03_Validate_0 t2 t3 c1_0 c1_1 c1_2 c1_3) K = w_ref03_Validate_0 F  (fun t2 t3 c1_0 c1_1 c1_2 c1_3 => K .ret (st_ref03_Validate_0 t2 t3 c1_0 c1_1 c1_2 c1_3)) (fun t2 t3 c1_0 c1_1 c1_2 c1_3 => K (.exit 0) (st_ref03_Validate_0 t2 t3 c1_0 c1_1 c1_2 c1_3)) n t2 t3 c1_0 c1_1 c1_2 c1_3 := by
  intro n
  induction n with
  | zero => intros; rfl
  | succ n ih =>
    intro r t2 t3 c1_0 c1_1 c1_2 c1_3
    have e : (fun t2 t3 c1_0 c1_1 c1_2 c1_3 => iter (exec C_flat_Validate Try.f21.ntmps M_ref03_Validate F 0 (cL (cB (cS (cF (cS (cS (bo Try.f21)))))))) (M_ref03_Validate 0) n (r + 1) (st_ref03_Validate_0 t2 t3 c1_0 c1_1 c1_2 c1_3) K) = w_ref03_Validate_0 F  (fun t2 t3 c1_0 c1_1 c1_2 c1_3 => K .ret (st_ref03_Validate_0 t2 t3 c1_0 c1_1 c1_2 c1_3)) (fun t2 t3 c1_0 c1_1 c1_2 c1_3 => K (.exit 0) (st_ref03_Validate_0 t2 t3 c1_0 c1_1 c1_2 c1_3)) n := by
      funext t2 t3 c1_0 c1_1 c1_2 c1_3
      exact ih (r + 1) t2 t3 c1_0 c1_1 c1_2 c1_3
    rw [step_ref03_Validate_0, e]
    rfl
theorem nl_ref03_Validate_0 (F : Nat) (Post : AVal UU → Prop) (t2 : Int) (t3 : Int) (c1_0 : ByteArray) (c1_1 : Int) (c1_2 : Int) (c1_3 : List Ent) : iter (exec C_flat_Validate Try.f21.ntmps M_ref03_Validate F 0 (cL (cB (cS (cF (cS (cS (bo Try.f21)))))))) (M_ref03_Validate 0) F 0 (st_ref03_Validate_0 t2 t3 c1_0 c1_1 c1_2 c1_3) (k_ref03_Validate_0 F Post) = n_ref03_Validate_0 F (fun r0 => Post (.int .i64 r0)) t2 t3 c1_0 c1_1 c1_2 c1_3 := by
  rw [loop_ref03_Validate_0]
  have h0 : (fun t2 t3 c1_0 c1_1 c1_2 c1_3 => k_ref03_Validate_0 F Post .ret (st_ref03_Validate_0 t2 t3 c1_0 c1_1 c1_2 c1_3)) = (fun t2 t3 c1_0 c1_1 c1_2 c1_3 => g_ref03_Validate_c0_0 (fun r0 => Post (.int .i64 r0)) t2 t3 c1_0 c1_1 c1_2 c1_3) := by
    funext t2 t3 c1_0 c1_1 c1_2 c1_3
    rw [cont_ref03_Validate_0_0]
  have h1 : (fun t2 t3 c1_0 c1_1 c1_2 c1_3 => k_ref03_Validate_0 F Post (.exit 0) (st_ref03_Validate_0 t2 t3 c1_0 c1_1 c1_2 c1_3)) = (fun t2 t3 c1_0 c1_1 c1_2 c1_3 => g_ref03_Validate_c0_1 (fun r0 => Post (.int .i64 r0)) t2 t3 c1_0 c1_1 c1_2 c1_3) := by
    funext t2 t3 c1_0 c1_1 c1_2 c1_3
    rw [cont_ref03_Validate_0_1]
  rw [h0, h1]
  rfl
theorem exec_ref03_Validate (F : Nat) (Post : AVal UU → Prop) (a0_Material : ByteArray) (a0_Gauge : Int) (a0_Die : Int) (a0_Entries : List Ent) : exec C_flat_Validate Try.f21.ntmps M_ref03_Validate F 0 (bo Try.f21) (initSt [.agg [.str a0_Material, .int .i64 a0_Gauge, .int .i64 a0_Die, .sl .ent a0_Entries]]) (AEnds C_flat_Validate false Try.f21 Post) = w_ref03_Validate F a0_Material a0_Gauge a0_Die a0_Entries (fun r0 => Post (.int .i64 r0)) := by
  rw [entry_ref03_Validate]
  have e0 : (fun t2 t3 c1_0 c1_1 c1_2 c1_3 => iter (exec C_flat_Validate Try.f21.ntmps M_ref03_Validate F 0 (cL (cB (cS (cF (cS (cS (bo Try.f21)))))))) (M_ref03_Validate 0) F 0 (st_ref03_Validate_0 t2 t3 c1_0 c1_1 c1_2 c1_3) (k_ref03_Validate_0 F Post)) = (n_ref03_Validate_0 F (fun r0 => Post (.int .i64 r0))) := by
    funext t2 t3 c1_0 c1_1 c1_2 c1_3
    exact nl_ref03_Validate_0 F Post t2 t3 c1_0 c1_1 c1_2 c1_3
  rw [e0]
  rfl
def m_ref03_Validate : Model UU
  | [.agg [.str a0_Material, .int .i64 a0_Gauge, .int .i64 a0_Die, .sl .ent a0_Entries]] => some ([pre_ref03_Validate a0_Material a0_Gauge a0_Die a0_Entries], .int .i64 (sp_ref03_Validate a0_Material a0_Gauge a0_Die a0_Entries))
  | _ => none
def C_ref03_Validate : Cfg UU := C_flat_Validate.add 21 m_ref03_Validate
theorem s_ref03_Validate : SumOK C_ref03_Validate := by
  refine s_flat_Validate.addD mixed (fn := Try.f21) (c := bo Try.f21) Try.func21 (by kernel_rfl) (by kernel_rfl) ?_
  intro xs cs r h hc
  unfold m_ref03_Validate at h
  split at h
  · rename_i a0_Material a0_Gauge a0_Die a0_Entries
    cases h
    obtain ⟨F, hF⟩ := ok_ref03_Validate a0_Material a0_Gauge a0_Die a0_Entries hc
    refine ⟨by kernel_rfl, M_ref03_Validate, F, false, ⟨?_⟩⟩
    rw [exec_ref03_Validate]
    refine hF _ ?_
    rfl
  · cases h
end
end Go.Proofs.Ytohecfbnmmgimaa
