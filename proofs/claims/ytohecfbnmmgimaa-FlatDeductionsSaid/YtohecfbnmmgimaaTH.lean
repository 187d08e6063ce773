/- That the code says what the printed pieces say, by the kernel; printed by gen.py. Conditions: none. -/
import Derived.Test.YtohecfbnmmgimaaGH
import Derived.Test.YtohecfbnmmgimaaTG
namespace Go.Proofs.Ytohecfbnmmgimaa
open Go.Vm Go.RowKit
set_option linter.unusedVariables false
noncomputable section
set_option maxRecDepth 100000 in
theorem entry_law03_FlatTables (F : Nat) (Post : AVal UU → Prop) (a0_Material : ByteArray) (a0_Gauge : Int) (a0_Die : Int) (a0_Entries : List Ent) (a1 : Int) : exec C_law03_known Try.f4.ntmps M_law03_FlatTables F 0 (bo Try.f4) (initSt [.agg [.str a0_Material, .int .i64 a0_Gauge, .int .i64 a0_Die, .sl .ent a0_Entries], .int .i64 a1]) (AEnds C_law03_known Try.f4 Post) = g_law03_FlatTables_e a0_Material a0_Gauge a0_Die a0_Entries a1 (fun r0 => Post (.bool r0)) := by kernel_rfl
theorem exec_law03_FlatTables (F : Nat) (Post : AVal UU → Prop) (a0_Material : ByteArray) (a0_Gauge : Int) (a0_Die : Int) (a0_Entries : List Ent) (a1 : Int) : exec C_law03_known Try.f4.ntmps M_law03_FlatTables F 0 (bo Try.f4) (initSt [.agg [.str a0_Material, .int .i64 a0_Gauge, .int .i64 a0_Die, .sl .ent a0_Entries], .int .i64 a1]) (AEnds C_law03_known Try.f4 Post) = w_law03_FlatTables F a0_Material a0_Gauge a0_Die a0_Entries a1 (fun r0 => Post (.bool r0)) := by
  rw [entry_law03_FlatTables]
  rfl
noncomputable def k_law03_FlatDeductions_0 (F : Nat) (Post : AVal UU → Prop) : AEx → ASt UU → Prop := kBlock 0 (kSeq C_law03_known Try.f5.ntmps M_law03_FlatDeductions F 0 (cS (cS (cS (cS (cS (cS (cS (cS (bo Try.f5))))))))) (AEnds C_law03_known Try.f5 Post))
set_option maxRecDepth 100000 in
theorem step_law03_FlatDeductions_0 (F n : Nat) (K : AEx → ASt UU → Prop) (t1 : Int) (t4 : Bool) (t7 : Int) (t9 : Int) (t10 : Int) (t11 : Int) (c2_0 : ByteArray) (c2_1 : Int) (c2_2 : Int) (c2_3 : List Ent) : iter (exec C_law03_known Try.f5.ntmps M_law03_FlatDeductions F 0 (cL (cB (cS (cF (cS (cS (cS (cS (cS (cS (cS (bo Try.f5))))))))))))) (M_law03_FlatDeductions 0) (n + 1) (st_law03_FlatDeductions_0 t1 t4 t7 t9 t10 t11 c2_0 c2_1 c2_2 c2_3) K = g_law03_FlatDeductions_s0 (fun t1 t4 t7 t9 t10 t11 c2_0 c2_1 c2_2 c2_3 => iter (exec C_law03_known Try.f5.ntmps M_law03_FlatDeductions F 0 (cL (cB (cS (cF (cS (cS (cS (cS (cS (cS (cS (bo Try.f5))))))))))))) (M_law03_FlatDeductions 0) n (st_law03_FlatDeductions_0 t1 t4 t7 t9 t10 t11 c2_0 c2_1 c2_2 c2_3) K) (fun t1 t4 t7 t9 t10 t11 c2_0 c2_1 c2_2 c2_3 => K .ret (st_law03_FlatDeductions_0 t1 t4 t7 t9 t10 t11 c2_0 c2_1 c2_2 c2_3)) (fun t1 t4 t7 t9 t10 t11 c2_0 c2_1 c2_2 c2_3 => K (.exit 0) (st_law03_FlatDeductions_0 t1 t4 t7 t9 t10 t11 c2_0 c2_1 c2_2 c2_3)) t1 t4 t7 t9 t10 t11 c2_0 c2_1 c2_2 c2_3 := by kernel_rfl
set_option maxRecDepth 100000 in
theorem cont_law03_FlatDeductions_0_0 (F : Nat) (Post : AVal UU → Prop) (t1 : Int) (t4 : Bool) (t7 : Int) (t9 : Int) (t10 : Int) (t11 : Int) (c2_0 : ByteArray) (c2_1 : Int) (c2_2 : Int) (c2_3 : List Ent) : k_law03_FlatDeductions_0 F Post .ret (st_law03_FlatDeductions_0 t1 t4 t7 t9 t10 t11 c2_0 c2_1 c2_2 c2_3) = g_law03_FlatDeductions_c0_0 (fun r0 => Post (.bool r0)) t1 t4 t7 t9 t10 t11 c2_0 c2_1 c2_2 c2_3 := by kernel_rfl
set_option maxRecDepth 100000 in
theorem cont_law03_FlatDeductions_0_1 (F : Nat) (Post : AVal UU → Prop) (t1 : Int) (t4 : Bool) (t7 : Int) (t9 : Int) (t10 : Int) (t11 : Int) (c2_0 : ByteArray) (c2_1 : Int) (c2_2 : Int) (c2_3 : List Ent) : k_law03_FlatDeductions_0 F Post (.exit 0) (st_law03_FlatDeductions_0 t1 t4 t7 t9 t10 t11 c2_0 c2_1 c2_2 c2_3) = g_law03_FlatDeductions_c0_1 (fun r0 => Post (.bool r0)) t1 t4 t7 t9 t10 t11 c2_0 c2_1 c2_2 c2_3 := by kernel_rfl
set_option maxRecDepth 100000 in
theorem entry_law03_FlatDeductions (F : Nat) (Post : AVal UU → Prop) (a0_Material : ByteArray) (a0_Gauge : Int) (a0_Die : Int) (a0_Entries : List Ent) (a1 : Int) : exec C_law03_known Try.f5.ntmps M_law03_FlatDeductions F 0 (bo Try.f5) (initSt [.agg [.str a0_Material, .int .i64 a0_Gauge, .int .i64 a0_Die, .sl .ent a0_Entries], .int .i64 a1]) (AEnds C_law03_known Try.f5 Post) = g_law03_FlatDeductions_e a0_Material a0_Gauge a0_Die a0_Entries a1 (fun r0 => Post (.bool r0)) (fun t1 t4 t7 t9 t10 t11 c2_0 c2_1 c2_2 c2_3 => iter (exec C_law03_known Try.f5.ntmps M_law03_FlatDeductions F 0 (cL (cB (cS (cF (cS (cS (cS (cS (cS (cS (cS (bo Try.f5))))))))))))) (M_law03_FlatDeductions 0) F (st_law03_FlatDeductions_0 t1 t4 t7 t9 t10 t11 c2_0 c2_1 c2_2 c2_3) (k_law03_FlatDeductions_0 F Post)) := by kernel_rfl
theorem loop_law03_FlatDeductions_0 (F : Nat) (K : AEx → ASt UU → Prop) : ∀ (n : Nat) (t1 : Int) (t4 : Bool) (t7 : Int) (t9 : Int) (t10 : Int) (t11 : Int) (c2_0 : ByteArray) (c2_1 : Int) (c2_2 : Int) (c2_3 : List Ent), iter (exec C_law03_known Try.f5.ntmps M_law03_FlatDeductions F 0 (cL (cB (cS (cF (cS (cS (cS (cS (cS (cS (cS (bo Try.f5))))))))))))) (M_law03_FlatDeductions 0) n (st_law03_FlatDeductions_0 t1 t4 t7 t9 t10 t11 c2_0 c2_1 c2_2 c2_3) K = w_law03_FlatDeductions_0 F (fun t1 t4 t7 t9 t10 t11 c2_0 c2_1 c2_2 c2_3 => K .ret (st_law03_FlatDeductions_0 t1 t4 t7 t9 t10 t11 c2_0 c2_1 c2_2 c2_3)) (fun t1 t4 t7 t9 t10 t11 c2_0 c2_1 c2_2 c2_3 => K (.exit 0) (st_law03_FlatDeductions_0 t1 t4 t7 t9 t10 t11 c2_0 c2_1 c2_2 c2_3)) n t1 t4 t7 t9 t10 t11 c2_0 c2_1 c2_2 c2_3 := by
  intro n
  induction n with
  | zero => intros; rfl
  | succ n ih =>
    intro t1 t4 t7 t9 t10 t11 c2_0 c2_1 c2_2 c2_3
    have e : (fun t1 t4 t7 t9 t10 t11 c2_0 c2_1 c2_2 c2_3 => iter (exec C_law03_known Try.f5.ntmps M_law03_FlatDeductions F 0 (cL (cB (cS (cF (cS (cS (cS (cS (cS (cS (cS (bo Try.f5))))))))))))) (M_law03_FlatDeductions 0) n (st_law03_FlatDeductions_0 t1 t4 t7 t9 t10 t11 c2_0 c2_1 c2_2 c2_3) K) = w_law03_FlatDeductions_0 F (fun t1 t4 t7 t9 t10 t11 c2_0 c2_1 c2_2 c2_3 => K .ret (st_law03_FlatDeductions_0 t1 t4 t7 t9 t10 t11 c2_0 c2_1 c2_2 c2_3)) (fun t1 t4 t7 t9 t10 t11 c2_0 c2_1 c2_2 c2_3 => K (.exit 0) (st_law03_FlatDeductions_0 t1 t4 t7 t9 t10 t11 c2_0 c2_1 c2_2 c2_3)) n := by
      funext t1 t4 t7 t9 t10 t11 c2_0 c2_1 c2_2 c2_3
      exact ih t1 t4 t7 t9 t10 t11 c2_0 c2_1 c2_2 c2_3
    rw [step_law03_FlatDeductions_0, e]
    rfl
theorem nl_law03_FlatDeductions_0 (F : Nat) (Post : AVal UU → Prop) (t1 : Int) (t4 : Bool) (t7 : Int) (t9 : Int) (t10 : Int) (t11 : Int) (c2_0 : ByteArray) (c2_1 : Int) (c2_2 : Int) (c2_3 : List Ent) : iter (exec C_law03_known Try.f5.ntmps M_law03_FlatDeductions F 0 (cL (cB (cS (cF (cS (cS (cS (cS (cS (cS (cS (bo Try.f5))))))))))))) (M_law03_FlatDeductions 0) F (st_law03_FlatDeductions_0 t1 t4 t7 t9 t10 t11 c2_0 c2_1 c2_2 c2_3) (k_law03_FlatDeductions_0 F Post) = n_law03_FlatDeductions_0 F (fun r0 => Post (.bool r0)) t1 t4 t7 t9 t10 t11 c2_0 c2_1 c2_2 c2_3 := by
  rw [loop_law03_FlatDeductions_0]
  have h0 : (fun t1 t4 t7 t9 t10 t11 c2_0 c2_1 c2_2 c2_3 => k_law03_FlatDeductions_0 F Post .ret (st_law03_FlatDeductions_0 t1 t4 t7 t9 t10 t11 c2_0 c2_1 c2_2 c2_3)) = (fun t1 t4 t7 t9 t10 t11 c2_0 c2_1 c2_2 c2_3 => g_law03_FlatDeductions_c0_0 (fun r0 => Post (.bool r0)) t1 t4 t7 t9 t10 t11 c2_0 c2_1 c2_2 c2_3) := by
    funext t1 t4 t7 t9 t10 t11 c2_0 c2_1 c2_2 c2_3
    rw [cont_law03_FlatDeductions_0_0]
  have h1 : (fun t1 t4 t7 t9 t10 t11 c2_0 c2_1 c2_2 c2_3 => k_law03_FlatDeductions_0 F Post (.exit 0) (st_law03_FlatDeductions_0 t1 t4 t7 t9 t10 t11 c2_0 c2_1 c2_2 c2_3)) = (fun t1 t4 t7 t9 t10 t11 c2_0 c2_1 c2_2 c2_3 => g_law03_FlatDeductions_c0_1 (fun r0 => Post (.bool r0)) t1 t4 t7 t9 t10 t11 c2_0 c2_1 c2_2 c2_3) := by
    funext t1 t4 t7 t9 t10 t11 c2_0 c2_1 c2_2 c2_3
    rw [cont_law03_FlatDeductions_0_1]
  rw [h0, h1]
  rfl
theorem exec_law03_FlatDeductions (F : Nat) (Post : AVal UU → Prop) (a0_Material : ByteArray) (a0_Gauge : Int) (a0_Die : Int) (a0_Entries : List Ent) (a1 : Int) : exec C_law03_known Try.f5.ntmps M_law03_FlatDeductions F 0 (bo Try.f5) (initSt [.agg [.str a0_Material, .int .i64 a0_Gauge, .int .i64 a0_Die, .sl .ent a0_Entries], .int .i64 a1]) (AEnds C_law03_known Try.f5 Post) = w_law03_FlatDeductions F a0_Material a0_Gauge a0_Die a0_Entries a1 (fun r0 => Post (.bool r0)) := by
  rw [entry_law03_FlatDeductions]
  have e0 : (fun t1 t4 t7 t9 t10 t11 c2_0 c2_1 c2_2 c2_3 => iter (exec C_law03_known Try.f5.ntmps M_law03_FlatDeductions F 0 (cL (cB (cS (cF (cS (cS (cS (cS (cS (cS (cS (bo Try.f5))))))))))))) (M_law03_FlatDeductions 0) F (st_law03_FlatDeductions_0 t1 t4 t7 t9 t10 t11 c2_0 c2_1 c2_2 c2_3) (k_law03_FlatDeductions_0 F Post)) = (n_law03_FlatDeductions_0 F (fun r0 => Post (.bool r0))) := by
    funext t1 t4 t7 t9 t10 t11 c2_0 c2_1 c2_2 c2_3
    exact nl_law03_FlatDeductions_0 F Post t1 t4 t7 t9 t10 t11 c2_0 c2_1 c2_2 c2_3
  rw [e0]
  rfl
end
end Go.Proofs.Ytohecfbnmmgimaa
