/- That the code says what the printed pieces say, by the kernel; printed by gen.py. Conditions: none. -/
import Derived.Test.YtohecfbnmmgimaaHF
import Derived.Test.YtohecfbnmmgimaaTE
namespace Go.Proofs.Ytohecfbnmmgimaa
open Go.Vm Go.RowKit
set_option linter.unusedVariables false
noncomputable section
def k_flat_deduction_0 (F : Nat) (Post : AVal UU → Prop) : AEx → ASt UU → Prop := kBlock 0 (kSeq C_flat_Ticks Try.f39.ntmps M_flat_deduction F 0 (cS (cS (bo Try.f39))) (AEnds C_flat_Ticks false Try.f39 Post))
set_option maxRecDepth 100000 in
theorem step_flat_deduction_0 (F n r : Nat) (K : AEx → ASt UU → Prop) (t1 : Int) (t5 : Bool) (t13 : List Ent) (t14 : Int) (t15 : Int) (c2_0 : ByteArray) (c2_1 : Int) (c2_2 : Int) (c2_3 : List Ent) (c4_0 : Int) (c4_1 : Int) : iter (exec C_flat_Ticks Try.f39.ntmps M_flat_deduction F 0 (cL (cB (cS (cF (cS (bo Try.f39))))))) (M_flat_deduction 0) (n + 1) r (st_flat_deduction_0 t1 t5 t13 t14 t15 c2_0 c2_1 c2_2 c2_3 c4_0 c4_1) K = g_flat_deduction_s0 (fun t1 t5 t13 t14 t15 c2_0 c2_1 c2_2 c2_3 c4_0 c4_1 => iter (exec C_flat_Ticks Try.f39.ntmps M_flat_deduction F 0 (cL (cB (cS (cF (cS (bo Try.f39))))))) (M_flat_deduction 0) n (r + 1) (st_flat_deduction_0 t1 t5 t13 t14 t15 c2_0 c2_1 c2_2 c2_3 c4_0 c4_1) K) (fun t1 t5 t13 t14 t15 c2_0 c2_1 c2_2 c2_3 c4_0 c4_1 => K .ret (st_flat_deduction_0 t1 t5 t13 t14 t15 c2_0 c2_1 c2_2 c2_3 c4_0 c4_1)) (fun t1 t5 t13 t14 t15 c2_0 c2_1 c2_2 c2_3 c4_0 c4_1 => K (.exit 0) (st_flat_deduction_0 t1 t5 t13 t14 t15 c2_0 c2_1 c2_2 c2_3 c4_0 c4_1)) t1 t5 t13 t14 t15 c2_0 c2_1 c2_2 c2_3 c4_0 c4_1 := by kernel_rfl
set_option maxRecDepth 100000 in
theorem cont_flat_deduction_0_0 (F : Nat) (Post : AVal UU → Prop) (t1 : Int) (t5 : Bool) (t13 : List Ent) (t14 : Int) (t15 : Int) (c2_0 : ByteArray) (c2_1 : Int) (c2_2 : Int) (c2_3 : List Ent) (c4_0 : Int) (c4_1 : Int) : k_flat_deduction_0 F Post .ret (st_flat_deduction_0 t1 t5 t13 t14 t15 c2_0 c2_1 c2_2 c2_3 c4_0 c4_1) = g_flat_deduction_c0_0 (fun r0_num r0_den r1 => Post (.tup [.agg [.int .i64 r0_num, .int .i64 r0_den], .bool r1])) t1 t5 t13 t14 t15 c2_0 c2_1 c2_2 c2_3 c4_0 c4_1 := by kernel_rfl
set_option maxRecDepth 100000 in
theorem cont_flat_deduction_0_1 (F : Nat) (Post : AVal UU → Prop) (t1 : Int) (t5 : Bool) (t13 : List Ent) (t14 : Int) (t15 : Int) (c2_0 : ByteArray) (c2_1 : Int) (c2_2 : Int) (c2_3 : List Ent) (c4_0 : Int) (c4_1 : Int) : k_flat_deduction_0 F Post (.exit 0) (st_flat_deduction_0 t1 t5 t13 t14 t15 c2_0 c2_1 c2_2 c2_3 c4_0 c4_1) = g_flat_deduction_c0_1 (fun r0_num r0_den r1 => Post (.tup [.agg [.int .i64 r0_num, .int .i64 r0_den], .bool r1])) t1 t5 t13 t14 t15 c2_0 c2_1 c2_2 c2_3 c4_0 c4_1 := by kernel_rfl
set_option maxRecDepth 100000 in
theorem entry_flat_deduction (F : Nat) (Post : AVal UU → Prop) (a0_Material : ByteArray) (a0_Gauge : Int) (a0_Die : Int) (a0_Entries : List Ent) (a1 : Int) : exec C_flat_Ticks Try.f39.ntmps M_flat_deduction F 0 (bo Try.f39) (initSt [.agg [.str a0_Material, .int .i64 a0_Gauge, .int .i64 a0_Die, .sl .ent a0_Entries], .int .i64 a1]) (AEnds C_flat_Ticks false Try.f39 Post) = g_flat_deduction_e a0_Material a0_Gauge a0_Die a0_Entries a1 (fun r0_num r0_den r1 => Post (.tup [.agg [.int .i64 r0_num, .int .i64 r0_den], .bool r1])) (fun t1 t5 t13 t14 t15 c2_0 c2_1 c2_2 c2_3 c4_0 c4_1 => iter (exec C_flat_Ticks Try.f39.ntmps M_flat_deduction F 0 (cL (cB (cS (cF (cS (bo Try.f39))))))) (M_flat_deduction 0) F 0 (st_flat_deduction_0 t1 t5 t13 t14 t15 c2_0 c2_1 c2_2 c2_3 c4_0 c4_1) (k_flat_deduction_0 F Post)) := by kernel_rfl
theorem loop_flat_deduction_0 (F : Nat) (K : AEx → ASt UU → Prop) : ∀ (n r : Nat) (t1 : Int) (t5 : Bool) (t13 : List Ent) (t14 : Int) (t15 : Int) (c2_0 : ByteArray) (c2_1 : Int) (c2_2 : Int) (c2_3 : List Ent) (c4_0 : Int) (c4_1 : Int), iter (exec C_flat_Ticks Try.f39.ntmps M_flat_deduction F 0 (cL (cB (cS (cF (cS (bo Try.f39))))))) (M_flat_deduction 0) n r (st_flat_deduction_0 t1 t5 t13 t14 t15 c2_0 c2_1 c2_2 c2_3 c4_0 c4_1) K = w_flat_deduction_0 F  (fun t1 t5 t13 t14 t15 c2_0 c2_1 c2_2 c2_3 c4_0 c4_1 => K .ret (st_flat_deduction_0 t1 t5 t13 t14 t15 c2_0 c2_1 c2_2 c2_3 c4_0 c4_1)) (fun t1 t5 t13 t14 t15 c2_0 c2_1 c2_2 c2_3 c4_0 c4_1 => K (.exit 0) (st_flat_deduction_0 t1 t5 t13 t14 t15 c2_0 c2_1 c2_2 c2_3 c4_0 c4_1)) n t1 t5 t13 t14 t15 c2_0 c2_1 c2_2 c2_3 c4_0 c4_1 := by
  intro n
  induction n with
  | zero => intros; rfl
  | succ n ih =>
    intro r t1 t5 t13 t14 t15 c2_0 c2_1 c2_2 c2_3 c4_0 c4_1
    have e : (fun t1 t5 t13 t14 t15 c2_0 c2_1 c2_2 c2_3 c4_0 c4_1 => iter (exec C_flat_Ticks Try.f39.ntmps M_flat_deduction F 0 (cL (cB (cS (cF (cS (bo Try.f39))))))) (M_flat_deduction 0) n (r + 1) (st_flat_deduction_0 t1 t5 t13 t14 t15 c2_0 c2_1 c2_2 c2_3 c4_0 c4_1) K) = w_flat_deduction_0 F  (fun t1 t5 t13 t14 t15 c2_0 c2_1 c2_2 c2_3 c4_0 c4_1 => K .ret (st_flat_deduction_0 t1 t5 t13 t14 t15 c2_0 c2_1 c2_2 c2_3 c4_0 c4_1)) (fun t1 t5 t13 t14 t15 c2_0 c2_1 c2_2 c2_3 c4_0 c4_1 => K (.exit 0) (st_flat_deduction_0 t1 t5 t13 t14 t15 c2_0 c2_1 c2_2 c2_3 c4_0 c4_1)) n := by
      funext t1 t5 t13 t14 t15 c2_0 c2_1 c2_2 c2_3 c4_0 c4_1
      exact ih (r + 1) t1 t5 t13 t14 t15 c2_0 c2_1 c2_2 c2_3 c4_0 c4_1
    rw [step_flat_deduction_0, e]
    rfl
theorem nl_flat_deduction_0 (F : Nat) (Post : AVal UU → Prop) (t1 : Int) (t5 : Bool) (t13 : List Ent) (t14 : Int) (t15 : Int) (c2_0 : ByteArray) (c2_1 : Int) (c2_2 : Int) (c2_3 : List Ent) (c4_0 : Int) (c4_1 : Int) : iter (exec C_flat_Ticks Try.f39.ntmps M_flat_deduction F 0 (cL (cB (cS (cF (cS (bo Try.f39))))))) (M_flat_deduction 0) F 0 (st_flat_deduction_0 t1 t5 t13 t14 t15 c2_0 c2_1 c2_2 c2_3 c4_0 c4_1) (k_flat_deduction_0 F Post) = n_flat_deduction_0 F (fun r0_num r0_den r1 => Post (.tup [.agg [.int .i64 r0_num, .int .i64 r0_den], .bool r1])) t1 t5 t13 t14 t15 c2_0 c2_1 c2_2 c2_3 c4_0 c4_1 := by
  rw [loop_flat_deduction_0]
  have h0 : (fun t1 t5 t13 t14 t15 c2_0 c2_1 c2_2 c2_3 c4_0 c4_1 => k_flat_deduction_0 F Post .ret (st_flat_deduction_0 t1 t5 t13 t14 t15 c2_0 c2_1 c2_2 c2_3 c4_0 c4_1)) = (fun t1 t5 t13 t14 t15 c2_0 c2_1 c2_2 c2_3 c4_0 c4_1 => g_flat_deduction_c0_0 (fun r0_num r0_den r1 => Post (.tup [.agg [.int .i64 r0_num, .int .i64 r0_den], .bool r1])) t1 t5 t13 t14 t15 c2_0 c2_1 c2_2 c2_3 c4_0 c4_1) := by
    funext t1 t5 t13 t14 t15 c2_0 c2_1 c2_2 c2_3 c4_0 c4_1
    rw [cont_flat_deduction_0_0]
  have h1 : (fun t1 t5 t13 t14 t15 c2_0 c2_1 c2_2 c2_3 c4_0 c4_1 => k_flat_deduction_0 F Post (.exit 0) (st_flat_deduction_0 t1 t5 t13 t14 t15 c2_0 c2_1 c2_2 c2_3 c4_0 c4_1)) = (fun t1 t5 t13 t14 t15 c2_0 c2_1 c2_2 c2_3 c4_0 c4_1 => g_flat_deduction_c0_1 (fun r0_num r0_den r1 => Post (.tup [.agg [.int .i64 r0_num, .int .i64 r0_den], .bool r1])) t1 t5 t13 t14 t15 c2_0 c2_1 c2_2 c2_3 c4_0 c4_1) := by
    funext t1 t5 t13 t14 t15 c2_0 c2_1 c2_2 c2_3 c4_0 c4_1
    rw [cont_flat_deduction_0_1]
  rw [h0, h1]
  rfl
theorem exec_flat_deduction (F : Nat) (Post : AVal UU → Prop) (a0_Material : ByteArray) (a0_Gauge : Int) (a0_Die : Int) (a0_Entries : List Ent) (a1 : Int) : exec C_flat_Ticks Try.f39.ntmps M_flat_deduction F 0 (bo Try.f39) (initSt [.agg [.str a0_Material, .int .i64 a0_Gauge, .int .i64 a0_Die, .sl .ent a0_Entries], .int .i64 a1]) (AEnds C_flat_Ticks false Try.f39 Post) = w_flat_deduction F a0_Material a0_Gauge a0_Die a0_Entries a1 (fun r0_num r0_den r1 => Post (.tup [.agg [.int .i64 r0_num, .int .i64 r0_den], .bool r1])) := by
  rw [entry_flat_deduction]
  have e0 : (fun t1 t5 t13 t14 t15 c2_0 c2_1 c2_2 c2_3 c4_0 c4_1 => iter (exec C_flat_Ticks Try.f39.ntmps M_flat_deduction F 0 (cL (cB (cS (cF (cS (bo Try.f39))))))) (M_flat_deduction 0) F 0 (st_flat_deduction_0 t1 t5 t13 t14 t15 c2_0 c2_1 c2_2 c2_3 c4_0 c4_1) (k_flat_deduction_0 F Post)) = (n_flat_deduction_0 F (fun r0_num r0_den r1 => Post (.tup [.agg [.int .i64 r0_num, .int .i64 r0_den], .bool r1]))) := by
    funext t1 t5 t13 t14 t15 c2_0 c2_1 c2_2 c2_3 c4_0 c4_1
    exact nl_flat_deduction_0 F Post t1 t5 t13 t14 t15 c2_0 c2_1 c2_2 c2_3 c4_0 c4_1
  rw [e0]
  rfl
def m_flat_deduction : Model UU
  | [.agg [.str a0_Material, .int .i64 a0_Gauge, .int .i64 a0_Die, .sl .ent a0_Entries], .int .i64 a1] => some ([pre_flat_deduction a0_Material a0_Gauge a0_Die a0_Entries a1], .tup [.agg [.int .i64 ((sp_flat_deduction a0_Material a0_Gauge a0_Die a0_Entries a1).1), .int .i64 ((sp_flat_deduction a0_Material a0_Gauge a0_Die a0_Entries a1).2.1)], .bool ((sp_flat_deduction a0_Material a0_Gauge a0_Die a0_Entries a1).2.2)])
  | _ => none
def C_flat_deduction : Cfg UU := C_flat_Ticks.add 39 m_flat_deduction
theorem s_flat_deduction : SumOK C_flat_deduction := by
  refine s_flat_Ticks.addD mixed (fn := Try.f39) (c := bo Try.f39) Try.func39 (by kernel_rfl) (by kernel_rfl) ?_
  intro xs cs r h hc
  unfold m_flat_deduction at h
  split at h
  · rename_i a0_Material a0_Gauge a0_Die a0_Entries a1
    cases h
    obtain ⟨F, hF⟩ := ok_flat_deduction a0_Material a0_Gauge a0_Die a0_Entries a1 hc
    refine ⟨by kernel_rfl, M_flat_deduction, F, false, ⟨?_⟩⟩
    rw [exec_flat_deduction]
    refine hF _ ?_
    rfl
  · cases h
def k_ref03_deduction_0 (F : Nat) (Post : AVal UU → Prop) : AEx → ASt UU → Prop := kBlock 0 (kSeq C_flat_deduction Try.f41.ntmps M_ref03_deduction F 0 (cS (cS (cS (bo Try.f41)))) (AEnds C_flat_deduction false Try.f41 Post))
set_option maxRecDepth 100000 in
theorem step_ref03_deduction_0 (F n r : Nat) (K : AEx → ASt UU → Prop) (t1 : Int) (t6 : Int) (t7 : Int) (t8 : Int) (c2_0 : ByteArray) (c2_1 : Int) (c2_2 : Int) (c2_3 : List Ent) (c4_0 : Int) (c4_1 : Int) : iter (exec C_flat_deduction Try.f41.ntmps M_ref03_deduction F 0 (cL (cB (cS (cF (cS (cS (bo Try.f41)))))))) (M_ref03_deduction 0) (n + 1) r (st_ref03_deduction_0 t1 t6 t7 t8 c2_0 c2_1 c2_2 c2_3 c4_0 c4_1) K = g_ref03_deduction_s0 (fun t1 t6 t7 t8 c2_0 c2_1 c2_2 c2_3 c4_0 c4_1 => iter (exec C_flat_deduction Try.f41.ntmps M_ref03_deduction F 0 (cL (cB (cS (cF (cS (cS (bo Try.f41)))))))) (M_ref03_deduction 0) n (r + 1) (st_ref03_deduction_0 t1 t6 t7 t8 c2_0 c2_1 c2_2 c2_3 c4_0 c4_1) K) (fun t1 t6 t7 t8 c2_0 c2_1 c2_2 c2_3 c4_0 c4_1 => K (.exit 0) (st_ref03_deduction_0 t1 t6 t7 t8 c2_0 c2_1 c2_2 c2_3 c4_0 c4_1)) t1 t6 t7 t8 c2_0 c2_1 c2_2 c2_3 c4_0 c4_1 := by kernel_rfl
set_option maxRecDepth 100000 in
theorem cont_ref03_deduction_0_0 (F : Nat) (Post : AVal UU → Prop) (t1 : Int) (t6 : Int) (t7 : Int) (t8 : Int) (c2_0 : ByteArray) (c2_1 : Int) (c2_2 : Int) (c2_3 : List Ent) (c4_0 : Int) (c4_1 : Int) : k_ref03_deduction_0 F Post (.exit 0) (st_ref03_deduction_0 t1 t6 t7 t8 c2_0 c2_1 c2_2 c2_3 c4_0 c4_1) = g_ref03_deduction_c0_0 (fun r0_Num r0_Den r1 => Post (.tup [.agg [.int .i64 r0_Num, .int .i64 r0_Den], .int .i64 r1])) t1 t6 t7 t8 c2_0 c2_1 c2_2 c2_3 c4_0 c4_1 := by kernel_rfl
set_option maxRecDepth 100000 in
theorem entry_ref03_deduction (F : Nat) (Post : AVal UU → Prop) (a0_Material : ByteArray) (a0_Gauge : Int) (a0_Die : Int) (a0_Entries : List Ent) (a1 : Int) : exec C_flat_deduction Try.f41.ntmps M_ref03_deduction F 0 (bo Try.f41) (initSt [.agg [.str a0_Material, .int .i64 a0_Gauge, .int .i64 a0_Die, .sl .ent a0_Entries], .int .i64 a1]) (AEnds C_flat_deduction false Try.f41 Post) = g_ref03_deduction_e a0_Material a0_Gauge a0_Die a0_Entries a1 (fun r0_Num r0_Den r1 => Post (.tup [.agg [.int .i64 r0_Num, .int .i64 r0_Den], .int .i64 r1])) (fun t1 t6 t7 t8 c2_0 c2_1 c2_2 c2_3 c4_0 c4_1 => iter (exec C_flat_deduction Try.f41.ntmps M_ref03_deduction F 0 (cL (cB (cS (cF (cS (cS (bo Try.f41)))))))) (M_ref03_deduction 0) F 0 (st_ref03_deduction_0 t1 t6 t7 t8 c2_0 c2_1 c2_2 c2_3 c4_0 c4_1) (k_ref03_deduction_0 F Post)) := by kernel_rfl
theorem loop_ref03_deduction_0 (F : Nat) (K : AEx → ASt UU → Prop) : ∀ (n r : Nat) (t1 : Int) (t6 : Int) (t7 : Int) (t8 : Int) (c2_0 : ByteArray) (c2_1 : Int) (c2_2 : Int) (c2_3 : List Ent) (c4_0 : Int) (c4_1 : Int), iter (exec C_flat_deduction Try.f41.ntmps M_ref03_deduction F 0 (cL (cB (cS (cF (cS (cS (bo Try.f41)))))))) (M_ref03_deduction 0) n r (st_ref03_deduction_0 t1 t6 t7 t8 c2_0 c2_1 c2_2 c2_3 c4_0 c4_1) K = w_ref03_deduction_0 F  (fun t1 t6 t7 t8 c2_0 c2_1 c2_2 c2_3 c4_0 c4_1 => K (.exit 0) (st_ref03_deduction_0 t1 t6 t7 t8 c2_0 c2_1 c2_2 c2_3 c4_0 c4_1)) n t1 t6 t7 t8 c2_0 c2_1 c2_2 c2_3 c4_0 c4_1 := by
  intro n
  induction n with
  | zero => intros; rfl
  | succ n ih =>
    intro r t1 t6 t7 t8 c2_0 c2_1 c2_2 c2_3 c4_0 c4_1
    have e : (fun t1 t6 t7 t8 c2_0 c2_1 c2_2 c2_3 c4_0 c4_1 => iter (exec C_flat_deduction Try.f41.ntmps M_ref03_deduction F 0 (cL (cB (cS (cF (cS (cS (bo Try.f41)))))))) (M_ref03_deduction 0) n (r + 1) (st_ref03_deduction_0 t1 t6 t7 t8 c2_0 c2_1 c2_2 c2_3 c4_0 c4_1) K) = w_ref03_deduction_0 F  (fun t1 t6 t7 t8 c2_0 c2_1 c2_2 c2_3 c4_0 c4_1 => K (.exit 0) (st_ref03_deduction_0 t1 t6 t7 t8 c2_0 c2_1 c2_2 c2_3 c4_0 c4_1)) n := by
      funext t1 t6 t7 t8 c2_0 c2_1 c2_2 c2_3 c4_0 c4_1
      exact ih (r + 1) t1 t6 t7 t8 c2_0 c2_1 c2_2 c2_3 c4_0 c4_1
    rw [step_ref03_deduction_0, e]
    rfl
theorem nl_ref03_deduction_0 (F : Nat) (Post : AVal UU → Prop) (t1 : Int) (t6 : Int) (t7 : Int) (t8 : Int) (c2_0 : ByteArray) (c2_1 : Int) (c2_2 : Int) (c2_3 : List Ent) (c4_0 : Int) (c4_1 : Int) : iter (exec C_flat_deduction Try.f41.ntmps M_ref03_deduction F 0 (cL (cB (cS (cF (cS (cS (bo Try.f41)))))))) (M_ref03_deduction 0) F 0 (st_ref03_deduction_0 t1 t6 t7 t8 c2_0 c2_1 c2_2 c2_3 c4_0 c4_1) (k_ref03_deduction_0 F Post) = n_ref03_deduction_0 F (fun r0_Num r0_Den r1 => Post (.tup [.agg [.int .i64 r0_Num, .int .i64 r0_Den], .int .i64 r1])) t1 t6 t7 t8 c2_0 c2_1 c2_2 c2_3 c4_0 c4_1 := by
  rw [loop_ref03_deduction_0]
  have h0 : (fun t1 t6 t7 t8 c2_0 c2_1 c2_2 c2_3 c4_0 c4_1 => k_ref03_deduction_0 F Post (.exit 0) (st_ref03_deduction_0 t1 t6 t7 t8 c2_0 c2_1 c2_2 c2_3 c4_0 c4_1)) = (fun t1 t6 t7 t8 c2_0 c2_1 c2_2 c2_3 c4_0 c4_1 => g_ref03_deduction_c0_0 (fun r0_Num r0_Den r1 => Post (.tup [.agg [.int .i64 r0_Num, .int .i64 r0_Den], .int .i64 r1])) t1 t6 t7 t8 c2_0 c2_1 c2_2 c2_3 c4_0 c4_1) := by
    funext t1 t6 t7 t8 c2_0 c2_1 c2_2 c2_3 c4_0 c4_1
    rw [cont_ref03_deduction_0_0]
  rw [h0]
  rfl
theorem exec_ref03_deduction (F : Nat) (Post : AVal UU → Prop) (a0_Material : ByteArray) (a0_Gauge : Int) (a0_Die : Int) (a0_Entries : List Ent) (a1 : Int) : exec C_flat_deduction Try.f41.ntmps M_ref03_deduction F 0 (bo Try.f41) (initSt [.agg [.str a0_Material, .int .i64 a0_Gauge, .int .i64 a0_Die, .sl .ent a0_Entries], .int .i64 a1]) (AEnds C_flat_deduction false Try.f41 Post) = w_ref03_deduction F a0_Material a0_Gauge a0_Die a0_Entries a1 (fun r0_Num r0_Den r1 => Post (.tup [.agg [.int .i64 r0_Num, .int .i64 r0_Den], .int .i64 r1])) := by
  rw [entry_ref03_deduction]
  have e0 : (fun t1 t6 t7 t8 c2_0 c2_1 c2_2 c2_3 c4_0 c4_1 => iter (exec C_flat_deduction Try.f41.ntmps M_ref03_deduction F 0 (cL (cB (cS (cF (cS (cS (bo Try.f41)))))))) (M_ref03_deduction 0) F 0 (st_ref03_deduction_0 t1 t6 t7 t8 c2_0 c2_1 c2_2 c2_3 c4_0 c4_1) (k_ref03_deduction_0 F Post)) = (n_ref03_deduction_0 F (fun r0_Num r0_Den r1 => Post (.tup [.agg [.int .i64 r0_Num, .int .i64 r0_Den], .int .i64 r1]))) := by
    funext t1 t6 t7 t8 c2_0 c2_1 c2_2 c2_3 c4_0 c4_1
    exact nl_ref03_deduction_0 F Post t1 t6 t7 t8 c2_0 c2_1 c2_2 c2_3 c4_0 c4_1
  rw [e0]
  rfl
def m_ref03_deduction : Model UU
  | [.agg [.str a0_Material, .int .i64 a0_Gauge, .int .i64 a0_Die, .sl .ent a0_Entries], .int .i64 a1] => some ([pre_ref03_deduction a0_Material a0_Gauge a0_Die a0_Entries a1], .tup [.agg [.int .i64 ((sp_ref03_deduction a0_Material a0_Gauge a0_Die a0_Entries a1).1), .int .i64 ((sp_ref03_deduction a0_Material a0_Gauge a0_Die a0_Entries a1).2.1)], .int .i64 ((sp_ref03_deduction a0_Material a0_Gauge a0_Die a0_Entries a1).2.2)])
  | _ => none
def C_ref03_deduction : Cfg UU := C_flat_deduction.add 41 m_ref03_deduction
theorem s_ref03_deduction : SumOK C_ref03_deduction := by
  refine s_flat_deduction.addD mixed (fn := Try.f41) (c := bo Try.f41) Try.func41 (by kernel_rfl) (by kernel_rfl) ?_
  intro xs cs r h hc
  unfold m_ref03_deduction at h
  split at h
  · rename_i a0_Material a0_Gauge a0_Die a0_Entries a1
    cases h
    obtain ⟨F, hF⟩ := ok_ref03_deduction a0_Material a0_Gauge a0_Die a0_Entries a1 hc
    refine ⟨by kernel_rfl, M_ref03_deduction, F, false, ⟨?_⟩⟩
    rw [exec_ref03_deduction]
    refine hF _ ?_
    rfl
  · cases h
end
end Go.Proofs.Ytohecfbnmmgimaa
