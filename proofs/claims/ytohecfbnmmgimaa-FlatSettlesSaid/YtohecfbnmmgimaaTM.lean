/- That the code says what the printed pieces say, by the kernel; printed by gen.py. Conditions: none. -/
import Derived.Test.YtohecfbnmmgimaaHM
import Derived.Test.YtohecfbnmmgimaaTL
namespace Go.Proofs.Ytohecfbnmmgimaa
open Go.Vm Go.RowKit
set_option linter.unusedVariables false
noncomputable section
def k_flat_check_0 (F : Nat) (Post : AVal UU → Prop) : AEx → ASt UU → Prop := kBlock 0 (kSeq C_ref03_move_line Try.f28.ntmps M_flat_check F 0 (cS (cS (cS (bo Try.f28)))) (AEnds C_ref03_move_line false Try.f28 Post))
def k_flat_check_1 (F n r : Nat) (K : AEx → ASt UU → Prop) : AEx → ASt UU → Prop := kBlock 2 (kBlock 1 (kSeq C_ref03_move_line Try.f28.ntmps M_flat_check F 0 (cS (cS (cS (cL (cB (cS (cF (cS (cS (bo Try.f28)))))))))) (kIter (exec C_ref03_move_line Try.f28.ntmps M_flat_check F 0 (cL (cB (cS (cF (cS (cS (bo Try.f28)))))))) (M_flat_check 0) n r K)))
def k_flat_check_2 (F : Nat) (Post : AVal UU → Prop) : AEx → ASt UU → Prop := kBlock 4 (kSeq C_ref03_move_line Try.f28.ntmps M_flat_check F 0 (cS (cS (cS (cS (bo Try.f28))))) (AEnds C_ref03_move_line false Try.f28 Post))
set_option maxRecDepth 100000 in
theorem step_flat_check_0 (F n r : Nat) (K : AEx → ASt UU → Prop) (t2 : Int) (t20 : Int) (t21 : Int) (c1_0 : List Rect) (c1_1 : List Rect) (c1_2 : List Rect) (c1_3 : List Bend) (l51 : List (List Rect)) : iter (exec C_ref03_move_line Try.f28.ntmps M_flat_check F 0 (cL (cB (cS (cF (cS (cS (bo Try.f28)))))))) (M_flat_check 0) (n + 1) r (st_flat_check_0 t2 t20 t21 c1_0 c1_1 c1_2 c1_3 l51) K = g_flat_check_s0 (fun t2 t20 t21 c1_0 c1_1 c1_2 c1_3 l51 => iter (exec C_ref03_move_line Try.f28.ntmps M_flat_check F 0 (cL (cB (cS (cF (cS (cS (bo Try.f28)))))))) (M_flat_check 0) n (r + 1) (st_flat_check_0 t2 t20 t21 c1_0 c1_1 c1_2 c1_3 l51) K) (fun t2 t20 t21 c1_0 c1_1 c1_2 c1_3 l51 => K .ret (st_flat_check_0 t2 t20 t21 c1_0 c1_1 c1_2 c1_3 l51)) (fun t2 t20 t21 c1_0 c1_1 c1_2 c1_3 l51 => K (.exit 0) (st_flat_check_0 t2 t20 t21 c1_0 c1_1 c1_2 c1_3 l51)) t2 t20 t21 c1_0 c1_1 c1_2 c1_3 l51 (fun t2 t20 t21 t28 t29 t30 c1_0 c1_1 c1_2 c1_3 l51 => iter (exec C_ref03_move_line Try.f28.ntmps M_flat_check F 2 (cL (cB (cS (cS (cS (cB (cF (cS (cS (cL (cB (cS (cF (cS (cS (bo Try.f28))))))))))))))))) (M_flat_check 2) F 0 (st_flat_check_1 t2 t20 t21 t28 t29 t30 c1_0 c1_1 c1_2 c1_3 l51) (k_flat_check_1 F n r K)) := by kernel_rfl
set_option maxRecDepth 100000 in
theorem cont_flat_check_0_0 (F : Nat) (Post : AVal UU → Prop) (t2 : Int) (t20 : Int) (t21 : Int) (c1_0 : List Rect) (c1_1 : List Rect) (c1_2 : List Rect) (c1_3 : List Bend) (l51 : List (List Rect)) : k_flat_check_0 F Post .ret (st_flat_check_0 t2 t20 t21 c1_0 c1_1 c1_2 c1_3 l51) = g_flat_check_c0_0 (fun r0 => Post (.int .i64 r0)) t2 t20 t21 c1_0 c1_1 c1_2 c1_3 l51 := by kernel_rfl
set_option maxRecDepth 100000 in
theorem cont_flat_check_0_1 (F : Nat) (Post : AVal UU → Prop) (t2 : Int) (t20 : Int) (t21 : Int) (c1_0 : List Rect) (c1_1 : List Rect) (c1_2 : List Rect) (c1_3 : List Bend) (l51 : List (List Rect)) : k_flat_check_0 F Post (.exit 0) (st_flat_check_0 t2 t20 t21 c1_0 c1_1 c1_2 c1_3 l51) = g_flat_check_c0_1 (fun r0 => Post (.int .i64 r0)) t2 t20 t21 c1_0 c1_1 c1_2 c1_3 l51 (fun t2 t40 t41 t42 => iter (exec C_ref03_move_line Try.f28.ntmps M_flat_check F 4 (cL (cB (cS (cF (cS (cS (cS (bo Try.f28))))))))) (M_flat_check 4) F 0 (st_flat_check_2 t2 t40 t41 t42) (k_flat_check_2 F Post)) := by kernel_rfl
set_option maxRecDepth 100000 in
theorem step_flat_check_1 (F n r : Nat) (K : AEx → ASt UU → Prop) (t2 : Int) (t20 : Int) (t21 : Int) (t28 : List Rect) (t29 : Int) (t30 : Int) (c1_0 : List Rect) (c1_1 : List Rect) (c1_2 : List Rect) (c1_3 : List Bend) (l51 : List (List Rect)) : iter (exec C_ref03_move_line Try.f28.ntmps M_flat_check F 2 (cL (cB (cS (cS (cS (cB (cF (cS (cS (cL (cB (cS (cF (cS (cS (bo Try.f28))))))))))))))))) (M_flat_check 2) (n + 1) r (st_flat_check_1 t2 t20 t21 t28 t29 t30 c1_0 c1_1 c1_2 c1_3 l51) K = g_flat_check_s1 (fun t2 t20 t21 t28 t29 t30 c1_0 c1_1 c1_2 c1_3 l51 => iter (exec C_ref03_move_line Try.f28.ntmps M_flat_check F 2 (cL (cB (cS (cS (cS (cB (cF (cS (cS (cL (cB (cS (cF (cS (cS (bo Try.f28))))))))))))))))) (M_flat_check 2) n (r + 1) (st_flat_check_1 t2 t20 t21 t28 t29 t30 c1_0 c1_1 c1_2 c1_3 l51) K) (fun t2 t20 t21 t28 t29 t30 c1_0 c1_1 c1_2 c1_3 l51 => K .ret (st_flat_check_1 t2 t20 t21 t28 t29 t30 c1_0 c1_1 c1_2 c1_3 l51)) (fun t2 t20 t21 t28 t29 t30 c1_0 c1_1 c1_2 c1_3 l51 => K (.exit 2) (st_flat_check_1 t2 t20 t21 t28 t29 t30 c1_0 c1_1 c1_2 c1_3 l51)) t2 t20 t21 t28 t29 t30 c1_0 c1_1 c1_2 c1_3 l51 := by kernel_rfl
set_option maxRecDepth 100000 in
theorem cont_flat_check_1_0 (F n r : Nat) (K : AEx → ASt UU → Prop) (t2 : Int) (t20 : Int) (t21 : Int) (t28 : List Rect) (t29 : Int) (t30 : Int) (c1_0 : List Rect) (c1_1 : List Rect) (c1_2 : List Rect) (c1_3 : List Bend) (l51 : List (List Rect)) : k_flat_check_1 F n r K .ret (st_flat_check_1 t2 t20 t21 t28 t29 t30 c1_0 c1_1 c1_2 c1_3 l51) = g_flat_check_c1_0 (fun t2 t20 t21 c1_0 c1_1 c1_2 c1_3 l51 => iter (exec C_ref03_move_line Try.f28.ntmps M_flat_check F 0 (cL (cB (cS (cF (cS (cS (bo Try.f28)))))))) (M_flat_check 0) n (r + 1) (st_flat_check_0 t2 t20 t21 c1_0 c1_1 c1_2 c1_3 l51) K) (fun t2 t20 t21 c1_0 c1_1 c1_2 c1_3 l51 => K .ret (st_flat_check_0 t2 t20 t21 c1_0 c1_1 c1_2 c1_3 l51)) (fun t2 t20 t21 c1_0 c1_1 c1_2 c1_3 l51 => K (.exit 0) (st_flat_check_0 t2 t20 t21 c1_0 c1_1 c1_2 c1_3 l51)) t2 t20 t21 t28 t29 t30 c1_0 c1_1 c1_2 c1_3 l51 := by kernel_rfl
set_option maxRecDepth 100000 in
theorem cont_flat_check_1_1 (F n r : Nat) (K : AEx → ASt UU → Prop) (t2 : Int) (t20 : Int) (t21 : Int) (t28 : List Rect) (t29 : Int) (t30 : Int) (c1_0 : List Rect) (c1_1 : List Rect) (c1_2 : List Rect) (c1_3 : List Bend) (l51 : List (List Rect)) : k_flat_check_1 F n r K (.exit 2) (st_flat_check_1 t2 t20 t21 t28 t29 t30 c1_0 c1_1 c1_2 c1_3 l51) = g_flat_check_c1_1 (fun t2 t20 t21 c1_0 c1_1 c1_2 c1_3 l51 => iter (exec C_ref03_move_line Try.f28.ntmps M_flat_check F 0 (cL (cB (cS (cF (cS (cS (bo Try.f28)))))))) (M_flat_check 0) n (r + 1) (st_flat_check_0 t2 t20 t21 c1_0 c1_1 c1_2 c1_3 l51) K) (fun t2 t20 t21 c1_0 c1_1 c1_2 c1_3 l51 => K .ret (st_flat_check_0 t2 t20 t21 c1_0 c1_1 c1_2 c1_3 l51)) (fun t2 t20 t21 c1_0 c1_1 c1_2 c1_3 l51 => K (.exit 0) (st_flat_check_0 t2 t20 t21 c1_0 c1_1 c1_2 c1_3 l51)) t2 t20 t21 t28 t29 t30 c1_0 c1_1 c1_2 c1_3 l51 := by kernel_rfl
set_option maxRecDepth 100000 in
theorem step_flat_check_2 (F n r : Nat) (K : AEx → ASt UU → Prop) (t2 : Int) (t40 : List Bend) (t41 : Int) (t42 : Int) : iter (exec C_ref03_move_line Try.f28.ntmps M_flat_check F 4 (cL (cB (cS (cF (cS (cS (cS (bo Try.f28))))))))) (M_flat_check 4) (n + 1) r (st_flat_check_2 t2 t40 t41 t42) K = g_flat_check_s2 (fun t2 t40 t41 t42 => iter (exec C_ref03_move_line Try.f28.ntmps M_flat_check F 4 (cL (cB (cS (cF (cS (cS (cS (bo Try.f28))))))))) (M_flat_check 4) n (r + 1) (st_flat_check_2 t2 t40 t41 t42) K) (fun t2 t40 t41 t42 => K .ret (st_flat_check_2 t2 t40 t41 t42)) (fun t2 t40 t41 t42 => K (.exit 4) (st_flat_check_2 t2 t40 t41 t42)) t2 t40 t41 t42 := by kernel_rfl
set_option maxRecDepth 100000 in
theorem cont_flat_check_2_0 (F : Nat) (Post : AVal UU → Prop) (t2 : Int) (t40 : List Bend) (t41 : Int) (t42 : Int) : k_flat_check_2 F Post .ret (st_flat_check_2 t2 t40 t41 t42) = g_flat_check_c2_0 (fun r0 => Post (.int .i64 r0)) t2 t40 t41 t42 := by kernel_rfl
set_option maxRecDepth 100000 in
theorem cont_flat_check_2_1 (F : Nat) (Post : AVal UU → Prop) (t2 : Int) (t40 : List Bend) (t41 : Int) (t42 : Int) : k_flat_check_2 F Post (.exit 4) (st_flat_check_2 t2 t40 t41 t42) = g_flat_check_c2_1 (fun r0 => Post (.int .i64 r0)) t2 t40 t41 t42 := by kernel_rfl
set_option maxRecDepth 100000 in
theorem entry_flat_check (F : Nat) (Post : AVal UU → Prop) (a0_Rects : List Rect) (a0_Cuts : List Rect) (a0_Forms : List Rect) (a0_Bends : List Bend) : exec C_ref03_move_line Try.f28.ntmps M_flat_check F 0 (bo Try.f28) (initSt [.agg [.sl .rect a0_Rects, .sl .rect a0_Cuts, .sl .rect a0_Forms, .sl .bend a0_Bends]]) (AEnds C_ref03_move_line false Try.f28 Post) = g_flat_check_e a0_Rects a0_Cuts a0_Forms a0_Bends (fun r0 => Post (.int .i64 r0)) (fun t2 t20 t21 c1_0 c1_1 c1_2 c1_3 l51 => iter (exec C_ref03_move_line Try.f28.ntmps M_flat_check F 0 (cL (cB (cS (cF (cS (cS (bo Try.f28)))))))) (M_flat_check 0) F 0 (st_flat_check_0 t2 t20 t21 c1_0 c1_1 c1_2 c1_3 l51) (k_flat_check_0 F Post)) := by kernel_rfl
theorem loop_flat_check_1 (F : Nat) (K : AEx → ASt UU → Prop) : ∀ (n r : Nat) (t2 : Int) (t20 : Int) (t21 : Int) (t28 : List Rect) (t29 : Int) (t30 : Int) (c1_0 : List Rect) (c1_1 : List Rect) (c1_2 : List Rect) (c1_3 : List Bend) (l51 : List (List Rect)), iter (exec C_ref03_move_line Try.f28.ntmps M_flat_check F 2 (cL (cB (cS (cS (cS (cB (cF (cS (cS (cL (cB (cS (cF (cS (cS (bo Try.f28))))))))))))))))) (M_flat_check 2) n r (st_flat_check_1 t2 t20 t21 t28 t29 t30 c1_0 c1_1 c1_2 c1_3 l51) K = w_flat_check_1 F  (fun t2 t20 t21 t28 t29 t30 c1_0 c1_1 c1_2 c1_3 l51 => K .ret (st_flat_check_1 t2 t20 t21 t28 t29 t30 c1_0 c1_1 c1_2 c1_3 l51)) (fun t2 t20 t21 t28 t29 t30 c1_0 c1_1 c1_2 c1_3 l51 => K (.exit 2) (st_flat_check_1 t2 t20 t21 t28 t29 t30 c1_0 c1_1 c1_2 c1_3 l51)) n t2 t20 t21 t28 t29 t30 c1_0 c1_1 c1_2 c1_3 l51 := by
  intro n
  induction n with
  | zero => intros; rfl
  | succ n ih =>
    intro r t2 t20 t21 t28 t29 t30 c1_0 c1_1 c1_2 c1_3 l51
    have e : (fun t2 t20 t21 t28 t29 t30 c1_0 c1_1 c1_2 c1_3 l51 => iter (exec C_ref03_move_line Try.f28.ntmps M_flat_check F 2 (cL (cB (cS (cS (cS (cB (cF (cS (cS (cL (cB (cS (cF (cS (cS (bo Try.f28))))))))))))))))) (M_flat_check 2) n (r + 1) (st_flat_check_1 t2 t20 t21 t28 t29 t30 c1_0 c1_1 c1_2 c1_3 l51) K) = w_flat_check_1 F  (fun t2 t20 t21 t28 t29 t30 c1_0 c1_1 c1_2 c1_3 l51 => K .ret (st_flat_check_1 t2 t20 t21 t28 t29 t30 c1_0 c1_1 c1_2 c1_3 l51)) (fun t2 t20 t21 t28 t29 t30 c1_0 c1_1 c1_2 c1_3 l51 => K (.exit 2) (st_flat_check_1 t2 t20 t21 t28 t29 t30 c1_0 c1_1 c1_2 c1_3 l51)) n := by
      funext t2 t20 t21 t28 t29 t30 c1_0 c1_1 c1_2 c1_3 l51
      exact ih (r + 1) t2 t20 t21 t28 t29 t30 c1_0 c1_1 c1_2 c1_3 l51
    rw [step_flat_check_1, e]
    rfl
theorem nl_flat_check_1 (F n r : Nat) (K : AEx → ASt UU → Prop) (t2 : Int) (t20 : Int) (t21 : Int) (t28 : List Rect) (t29 : Int) (t30 : Int) (c1_0 : List Rect) (c1_1 : List Rect) (c1_2 : List Rect) (c1_3 : List Bend) (l51 : List (List Rect)) : iter (exec C_ref03_move_line Try.f28.ntmps M_flat_check F 2 (cL (cB (cS (cS (cS (cB (cF (cS (cS (cL (cB (cS (cF (cS (cS (bo Try.f28))))))))))))))))) (M_flat_check 2) F 0 (st_flat_check_1 t2 t20 t21 t28 t29 t30 c1_0 c1_1 c1_2 c1_3 l51) (k_flat_check_1 F n r K) = n_flat_check_1 F (fun t2 t20 t21 c1_0 c1_1 c1_2 c1_3 l51 => iter (exec C_ref03_move_line Try.f28.ntmps M_flat_check F 0 (cL (cB (cS (cF (cS (cS (bo Try.f28)))))))) (M_flat_check 0) n (r + 1) (st_flat_check_0 t2 t20 t21 c1_0 c1_1 c1_2 c1_3 l51) K) (fun t2 t20 t21 c1_0 c1_1 c1_2 c1_3 l51 => K .ret (st_flat_check_0 t2 t20 t21 c1_0 c1_1 c1_2 c1_3 l51)) (fun t2 t20 t21 c1_0 c1_1 c1_2 c1_3 l51 => K (.exit 0) (st_flat_check_0 t2 t20 t21 c1_0 c1_1 c1_2 c1_3 l51)) t2 t20 t21 t28 t29 t30 c1_0 c1_1 c1_2 c1_3 l51 := by
  rw [loop_flat_check_1]
  have h0 : (fun t2 t20 t21 t28 t29 t30 c1_0 c1_1 c1_2 c1_3 l51 => k_flat_check_1 F n r K .ret (st_flat_check_1 t2 t20 t21 t28 t29 t30 c1_0 c1_1 c1_2 c1_3 l51)) = (fun t2 t20 t21 t28 t29 t30 c1_0 c1_1 c1_2 c1_3 l51 => g_flat_check_c1_0 (fun t2 t20 t21 c1_0 c1_1 c1_2 c1_3 l51 => iter (exec C_ref03_move_line Try.f28.ntmps M_flat_check F 0 (cL (cB (cS (cF (cS (cS (bo Try.f28)))))))) (M_flat_check 0) n (r + 1) (st_flat_check_0 t2 t20 t21 c1_0 c1_1 c1_2 c1_3 l51) K) (fun t2 t20 t21 c1_0 c1_1 c1_2 c1_3 l51 => K .ret (st_flat_check_0 t2 t20 t21 c1_0 c1_1 c1_2 c1_3 l51)) (fun t2 t20 t21 c1_0 c1_1 c1_2 c1_3 l51 => K (.exit 0) (st_flat_check_0 t2 t20 t21 c1_0 c1_1 c1_2 c1_3 l51)) t2 t20 t21 t28 t29 t30 c1_0 c1_1 c1_2 c1_3 l51) := by
    funext t2 t20 t21 t28 t29 t30 c1_0 c1_1 c1_2 c1_3 l51
    rw [cont_flat_check_1_0]
  have h1 : (fun t2 t20 t21 t28 t29 t30 c1_0 c1_1 c1_2 c1_3 l51 => k_flat_check_1 F n r K (.exit 2) (st_flat_check_1 t2 t20 t21 t28 t29 t30 c1_0 c1_1 c1_2 c1_3 l51)) = (fun t2 t20 t21 t28 t29 t30 c1_0 c1_1 c1_2 c1_3 l51 => g_flat_check_c1_1 (fun t2 t20 t21 c1_0 c1_1 c1_2 c1_3 l51 => iter (exec C_ref03_move_line Try.f28.ntmps M_flat_check F 0 (cL (cB (cS (cF (cS (cS (bo Try.f28)))))))) (M_flat_check 0) n (r + 1) (st_flat_check_0 t2 t20 t21 c1_0 c1_1 c1_2 c1_3 l51) K) (fun t2 t20 t21 c1_0 c1_1 c1_2 c1_3 l51 => K .ret (st_flat_check_0 t2 t20 t21 c1_0 c1_1 c1_2 c1_3 l51)) (fun t2 t20 t21 c1_0 c1_1 c1_2 c1_3 l51 => K (.exit 0) (st_flat_check_0 t2 t20 t21 c1_0 c1_1 c1_2 c1_3 l51)) t2 t20 t21 t28 t29 t30 c1_0 c1_1 c1_2 c1_3 l51) := by
    funext t2 t20 t21 t28 t29 t30 c1_0 c1_1 c1_2 c1_3 l51
    rw [cont_flat_check_1_1]
  rw [h0, h1]
  rfl
theorem loop_flat_check_2 (F : Nat) (K : AEx → ASt UU → Prop) : ∀ (n r : Nat) (t2 : Int) (t40 : List Bend) (t41 : Int) (t42 : Int), iter (exec C_ref03_move_line Try.f28.ntmps M_flat_check F 4 (cL (cB (cS (cF (cS (cS (cS (bo Try.f28))))))))) (M_flat_check 4) n r (st_flat_check_2 t2 t40 t41 t42) K = w_flat_check_2 F  (fun t2 t40 t41 t42 => K .ret (st_flat_check_2 t2 t40 t41 t42)) (fun t2 t40 t41 t42 => K (.exit 4) (st_flat_check_2 t2 t40 t41 t42)) n t2 t40 t41 t42 := by
  intro n
  induction n with
  | zero => intros; rfl
  | succ n ih =>
    intro r t2 t40 t41 t42
    have e : (fun t2 t40 t41 t42 => iter (exec C_ref03_move_line Try.f28.ntmps M_flat_check F 4 (cL (cB (cS (cF (cS (cS (cS (bo Try.f28))))))))) (M_flat_check 4) n (r + 1) (st_flat_check_2 t2 t40 t41 t42) K) = w_flat_check_2 F  (fun t2 t40 t41 t42 => K .ret (st_flat_check_2 t2 t40 t41 t42)) (fun t2 t40 t41 t42 => K (.exit 4) (st_flat_check_2 t2 t40 t41 t42)) n := by
      funext t2 t40 t41 t42
      exact ih (r + 1) t2 t40 t41 t42
    rw [step_flat_check_2, e]
    rfl
theorem nl_flat_check_2 (F : Nat) (Post : AVal UU → Prop) (t2 : Int) (t40 : List Bend) (t41 : Int) (t42 : Int) : iter (exec C_ref03_move_line Try.f28.ntmps M_flat_check F 4 (cL (cB (cS (cF (cS (cS (cS (bo Try.f28))))))))) (M_flat_check 4) F 0 (st_flat_check_2 t2 t40 t41 t42) (k_flat_check_2 F Post) = n_flat_check_2 F (fun r0 => Post (.int .i64 r0)) t2 t40 t41 t42 := by
  rw [loop_flat_check_2]
  have h0 : (fun t2 t40 t41 t42 => k_flat_check_2 F Post .ret (st_flat_check_2 t2 t40 t41 t42)) = (fun t2 t40 t41 t42 => g_flat_check_c2_0 (fun r0 => Post (.int .i64 r0)) t2 t40 t41 t42) := by
    funext t2 t40 t41 t42
    rw [cont_flat_check_2_0]
  have h1 : (fun t2 t40 t41 t42 => k_flat_check_2 F Post (.exit 4) (st_flat_check_2 t2 t40 t41 t42)) = (fun t2 t40 t41 t42 => g_flat_check_c2_1 (fun r0 => Post (.int .i64 r0)) t2 t40 t41 t42) := by
    funext t2 t40 t41 t42
    rw [cont_flat_check_2_1]
  rw [h0, h1]
  rfl
theorem loop_flat_check_0 (F : Nat) (K : AEx → ASt UU → Prop) : ∀ (n r : Nat) (t2 : Int) (t20 : Int) (t21 : Int) (c1_0 : List Rect) (c1_1 : List Rect) (c1_2 : List Rect) (c1_3 : List Bend) (l51 : List (List Rect)), iter (exec C_ref03_move_line Try.f28.ntmps M_flat_check F 0 (cL (cB (cS (cF (cS (cS (bo Try.f28)))))))) (M_flat_check 0) n r (st_flat_check_0 t2 t20 t21 c1_0 c1_1 c1_2 c1_3 l51) K = w_flat_check_0 F  (fun t2 t20 t21 c1_0 c1_1 c1_2 c1_3 l51 => K .ret (st_flat_check_0 t2 t20 t21 c1_0 c1_1 c1_2 c1_3 l51)) (fun t2 t20 t21 c1_0 c1_1 c1_2 c1_3 l51 => K (.exit 0) (st_flat_check_0 t2 t20 t21 c1_0 c1_1 c1_2 c1_3 l51)) n t2 t20 t21 c1_0 c1_1 c1_2 c1_3 l51 := by
  intro n
  induction n with
  | zero => intros; rfl
  | succ n ih =>
    intro r t2 t20 t21 c1_0 c1_1 c1_2 c1_3 l51
    have e : (fun t2 t20 t21 c1_0 c1_1 c1_2 c1_3 l51 => iter (exec C_ref03_move_line Try.f28.ntmps M_flat_check F 0 (cL (cB (cS (cF (cS (cS (bo Try.f28)))))))) (M_flat_check 0) n (r + 1) (st_flat_check_0 t2 t20 t21 c1_0 c1_1 c1_2 c1_3 l51) K) = w_flat_check_0 F  (fun t2 t20 t21 c1_0 c1_1 c1_2 c1_3 l51 => K .ret (st_flat_check_0 t2 t20 t21 c1_0 c1_1 c1_2 c1_3 l51)) (fun t2 t20 t21 c1_0 c1_1 c1_2 c1_3 l51 => K (.exit 0) (st_flat_check_0 t2 t20 t21 c1_0 c1_1 c1_2 c1_3 l51)) n := by
      funext t2 t20 t21 c1_0 c1_1 c1_2 c1_3 l51
      exact ih (r + 1) t2 t20 t21 c1_0 c1_1 c1_2 c1_3 l51
    have e1 : (fun t2 t20 t21 t28 t29 t30 c1_0 c1_1 c1_2 c1_3 l51 => iter (exec C_ref03_move_line Try.f28.ntmps M_flat_check F 2 (cL (cB (cS (cS (cS (cB (cF (cS (cS (cL (cB (cS (cF (cS (cS (bo Try.f28))))))))))))))))) (M_flat_check 2) F 0 (st_flat_check_1 t2 t20 t21 t28 t29 t30 c1_0 c1_1 c1_2 c1_3 l51) (k_flat_check_1 F n r K)) = (n_flat_check_1 F (fun t2 t20 t21 c1_0 c1_1 c1_2 c1_3 l51 => iter (exec C_ref03_move_line Try.f28.ntmps M_flat_check F 0 (cL (cB (cS (cF (cS (cS (bo Try.f28)))))))) (M_flat_check 0) n (r + 1) (st_flat_check_0 t2 t20 t21 c1_0 c1_1 c1_2 c1_3 l51) K) (fun t2 t20 t21 c1_0 c1_1 c1_2 c1_3 l51 => K .ret (st_flat_check_0 t2 t20 t21 c1_0 c1_1 c1_2 c1_3 l51)) (fun t2 t20 t21 c1_0 c1_1 c1_2 c1_3 l51 => K (.exit 0) (st_flat_check_0 t2 t20 t21 c1_0 c1_1 c1_2 c1_3 l51))) := by
      funext t2 t20 t21 t28 t29 t30 c1_0 c1_1 c1_2 c1_3 l51
      exact nl_flat_check_1 F n r K t2 t20 t21 t28 t29 t30 c1_0 c1_1 c1_2 c1_3 l51
    rw [step_flat_check_0, e1, e]
    rfl
theorem nl_flat_check_0 (F : Nat) (Post : AVal UU → Prop) (t2 : Int) (t20 : Int) (t21 : Int) (c1_0 : List Rect) (c1_1 : List Rect) (c1_2 : List Rect) (c1_3 : List Bend) (l51 : List (List Rect)) : iter (exec C_ref03_move_line Try.f28.ntmps M_flat_check F 0 (cL (cB (cS (cF (cS (cS (bo Try.f28)))))))) (M_flat_check 0) F 0 (st_flat_check_0 t2 t20 t21 c1_0 c1_1 c1_2 c1_3 l51) (k_flat_check_0 F Post) = n_flat_check_0 F (fun r0 => Post (.int .i64 r0)) t2 t20 t21 c1_0 c1_1 c1_2 c1_3 l51 := by
  rw [loop_flat_check_0]
  have e2 : (fun t2 t40 t41 t42 => iter (exec C_ref03_move_line Try.f28.ntmps M_flat_check F 4 (cL (cB (cS (cF (cS (cS (cS (bo Try.f28))))))))) (M_flat_check 4) F 0 (st_flat_check_2 t2 t40 t41 t42) (k_flat_check_2 F Post)) = (n_flat_check_2 F (fun r0 => Post (.int .i64 r0))) := by
    funext t2 t40 t41 t42
    exact nl_flat_check_2 F Post t2 t40 t41 t42
  have h0 : (fun t2 t20 t21 c1_0 c1_1 c1_2 c1_3 l51 => k_flat_check_0 F Post .ret (st_flat_check_0 t2 t20 t21 c1_0 c1_1 c1_2 c1_3 l51)) = (fun t2 t20 t21 c1_0 c1_1 c1_2 c1_3 l51 => g_flat_check_c0_0 (fun r0 => Post (.int .i64 r0)) t2 t20 t21 c1_0 c1_1 c1_2 c1_3 l51) := by
    funext t2 t20 t21 c1_0 c1_1 c1_2 c1_3 l51
    rw [cont_flat_check_0_0]
  have h1 : (fun t2 t20 t21 c1_0 c1_1 c1_2 c1_3 l51 => k_flat_check_0 F Post (.exit 0) (st_flat_check_0 t2 t20 t21 c1_0 c1_1 c1_2 c1_3 l51)) = (fun t2 t20 t21 c1_0 c1_1 c1_2 c1_3 l51 => g_flat_check_c0_1 (fun r0 => Post (.int .i64 r0)) t2 t20 t21 c1_0 c1_1 c1_2 c1_3 l51 (n_flat_check_2 F (fun r0 => Post (.int .i64 r0)))) := by
    funext t2 t20 t21 c1_0 c1_1 c1_2 c1_3 l51
    rw [cont_flat_check_0_1, e2]
  rw [h0, h1]
  rfl
theorem exec_flat_check (F : Nat) (Post : AVal UU → Prop) (a0_Rects : List Rect) (a0_Cuts : List Rect) (a0_Forms : List Rect) (a0_Bends : List Bend) : exec C_ref03_move_line Try.f28.ntmps M_flat_check F 0 (bo Try.f28) (initSt [.agg [.sl .rect a0_Rects, .sl .rect a0_Cuts, .sl .rect a0_Forms, .sl .bend a0_Bends]]) (AEnds C_ref03_move_line false Try.f28 Post) = w_flat_check F a0_Rects a0_Cuts a0_Forms a0_Bends (fun r0 => Post (.int .i64 r0)) := by
  rw [entry_flat_check]
  have e0 : (fun t2 t20 t21 c1_0 c1_1 c1_2 c1_3 l51 => iter (exec C_ref03_move_line Try.f28.ntmps M_flat_check F 0 (cL (cB (cS (cF (cS (cS (bo Try.f28)))))))) (M_flat_check 0) F 0 (st_flat_check_0 t2 t20 t21 c1_0 c1_1 c1_2 c1_3 l51) (k_flat_check_0 F Post)) = (n_flat_check_0 F (fun r0 => Post (.int .i64 r0))) := by
    funext t2 t20 t21 c1_0 c1_1 c1_2 c1_3 l51
    exact nl_flat_check_0 F Post t2 t20 t21 c1_0 c1_1 c1_2 c1_3 l51
  rw [e0]
  rfl
def m_flat_check : Model UU
  | [.agg [.sl .rect a0_Rects, .sl .rect a0_Cuts, .sl .rect a0_Forms, .sl .bend a0_Bends]] => some ([pre_flat_check a0_Rects a0_Cuts a0_Forms a0_Bends], .int .i64 (sp_flat_check a0_Rects a0_Cuts a0_Forms a0_Bends))
  | _ => none
def C_flat_check : Cfg UU := C_ref03_move_line.add 28 m_flat_check
theorem s_flat_check : SumOK C_flat_check := by
  refine s_ref03_move_line.addD mixed (fn := Try.f28) (c := bo Try.f28) Try.func28 (by kernel_rfl) (by kernel_rfl) ?_
  intro xs cs r h hc
  unfold m_flat_check at h
  split at h
  · rename_i a0_Rects a0_Cuts a0_Forms a0_Bends
    cases h
    obtain ⟨F, hF⟩ := ok_flat_check a0_Rects a0_Cuts a0_Forms a0_Bends hc
    refine ⟨by kernel_rfl, M_flat_check, F, false, ⟨?_⟩⟩
    rw [exec_flat_check]
    refine hF _ ?_
    rfl
  · cases h
def k_ref03_Whole_0 (F : Nat) (Post : AVal UU → Prop) : AEx → ASt UU → Prop := kBlock 0 (kSeq C_flat_check Try.f30.ntmps M_ref03_Whole F 0 (cS (cS (cS (bo Try.f30)))) (AEnds C_flat_check false Try.f30 Post))
set_option maxRecDepth 100000 in
theorem step_ref03_Whole_0 (F n r : Nat) (K : AEx → ASt UU → Prop) (t2 : Bool) (t3 : Int) (c1_0 : List Rect) (c1_1 : List Rect) (c1_2 : List Rect) (c1_3 : List Bend) : iter (exec C_flat_check Try.f30.ntmps M_ref03_Whole F 0 (cL (cB (cS (cF (cS (cS (bo Try.f30)))))))) (M_ref03_Whole 0) (n + 1) r (st_ref03_Whole_0 t2 t3 c1_0 c1_1 c1_2 c1_3) K = g_ref03_Whole_s0 (fun t2 t3 c1_0 c1_1 c1_2 c1_3 => iter (exec C_flat_check Try.f30.ntmps M_ref03_Whole F 0 (cL (cB (cS (cF (cS (cS (bo Try.f30)))))))) (M_ref03_Whole 0) n (r + 1) (st_ref03_Whole_0 t2 t3 c1_0 c1_1 c1_2 c1_3) K) (fun t2 t3 c1_0 c1_1 c1_2 c1_3 => K .ret (st_ref03_Whole_0 t2 t3 c1_0 c1_1 c1_2 c1_3)) (fun t2 t3 c1_0 c1_1 c1_2 c1_3 => K (.exit 0) (st_ref03_Whole_0 t2 t3 c1_0 c1_1 c1_2 c1_3)) t2 t3 c1_0 c1_1 c1_2 c1_3 := by kernel_rfl
set_option maxRecDepth 100000 in
theorem cont_ref03_Whole_0_0 (F : Nat) (Post : AVal UU → Prop) (t2 : Bool) (t3 : Int) (c1_0 : List Rect) (c1_1 : List Rect) (c1_2 : List Rect) (c1_3 : List Bend) : k_ref03_Whole_0 F Post .ret (st_ref03_Whole_0 t2 t3 c1_0 c1_1 c1_2 c1_3) = g_ref03_Whole_c0_0 (fun r0 => Post (.bool r0)) t2 t3 c1_0 c1_1 c1_2 c1_3 := by kernel_rfl
set_option maxRecDepth 100000 in
theorem cont_ref03_Whole_0_1 (F : Nat) (Post : AVal UU → Prop) (t2 : Bool) (t3 : Int) (c1_0 : List Rect) (c1_1 : List Rect) (c1_2 : List Rect) (c1_3 : List Bend) : k_ref03_Whole_0 F Post (.exit 0) (st_ref03_Whole_0 t2 t3 c1_0 c1_1 c1_2 c1_3) = g_ref03_Whole_c0_1 (fun r0 => Post (.bool r0)) t2 t3 c1_0 c1_1 c1_2 c1_3 := by kernel_rfl
set_option maxRecDepth 100000 in
theorem entry_ref03_Whole (F : Nat) (Post : AVal UU → Prop) (a0_Rects : List Rect) (a0_Cuts : List Rect) (a0_Forms : List Rect) (a0_Bends : List Bend) : exec C_flat_check Try.f30.ntmps M_ref03_Whole F 0 (bo Try.f30) (initSt [.agg [.sl .rect a0_Rects, .sl .rect a0_Cuts, .sl .rect a0_Forms, .sl .bend a0_Bends]]) (AEnds C_flat_check false Try.f30 Post) = g_ref03_Whole_e a0_Rects a0_Cuts a0_Forms a0_Bends (fun r0 => Post (.bool r0)) (fun t2 t3 c1_0 c1_1 c1_2 c1_3 => iter (exec C_flat_check Try.f30.ntmps M_ref03_Whole F 0 (cL (cB (cS (cF (cS (cS (bo Try.f30)))))))) (M_ref03_Whole 0) F 0 (st_ref03_Whole_0 t2 t3 c1_0 c1_1 c1_2 c1_3) (k_ref03_Whole_0 F Post)) := by kernel_rfl
theorem loop_ref03_Whole_0 (F : Nat) (K : AEx → ASt UU → Prop) : ∀ (n r : Nat) (t2 : Bool) (t3 : Int) (c1_0 : List Rect) (c1_1 : List Rect) (c1_2 : List Rect) (c1_3 : List Bend), iter (exec C_flat_check Try.f30.ntmps M_ref03_Whole F 0 (cL (cB (cS (cF (cS (cS (bo Try.f30)))))))) (M_ref03_Whole 0) n r (st_ref03_Whole_0 t2 t3 c1_0 c1_1 c1_2 c1_3) K = w_ref03_Whole_0 F  (fun t2 t3 c1_0 c1_1 c1_2 c1_3 => K .ret (st_ref03_Whole_0 t2 t3 c1_0 c1_1 c1_2 c1_3)) (fun t2 t3 c1_0 c1_1 c1_2 c1_3 => K (.exit 0) (st_ref03_Whole_0 t2 t3 c1_0 c1_1 c1_2 c1_3)) n t2 t3 c1_0 c1_1 c1_2 c1_3 := by
  intro n
  induction n with
  | zero => intros; rfl
  | succ n ih =>
    intro r t2 t3 c1_0 c1_1 c1_2 c1_3
    have e : (fun t2 t3 c1_0 c1_1 c1_2 c1_3 => iter (exec C_flat_check Try.f30.ntmps M_ref03_Whole F 0 (cL (cB (cS (cF (cS (cS (bo Try.f30)))))))) (M_ref03_Whole 0) n (r + 1) (st_ref03_Whole_0 t2 t3 c1_0 c1_1 c1_2 c1_3) K) = w_ref03_Whole_0 F  (fun t2 t3 c1_0 c1_1 c1_2 c1_3 => K .ret (st_ref03_Whole_0 t2 t3 c1_0 c1_1 c1_2 c1_3)) (fun t2 t3 c1_0 c1_1 c1_2 c1_3 => K (.exit 0) (st_ref03_Whole_0 t2 t3 c1_0 c1_1 c1_2 c1_3)) n := by
      funext t2 t3 c1_0 c1_1 c1_2 c1_3
      exact ih (r + 1) t2 t3 c1_0 c1_1 c1_2 c1_3
    rw [step_ref03_Whole_0, e]
    rfl
theorem nl_ref03_Whole_0 (F : Nat) (Post : AVal UU → Prop) (t2 : Bool) (t3 : Int) (c1_0 : List Rect) (c1_1 : List Rect) (c1_2 : List Rect) (c1_3 : List Bend) : iter (exec C_flat_check Try.f30.ntmps M_ref03_Whole F 0 (cL (cB (cS (cF (cS (cS (bo Try.f30)))))))) (M_ref03_Whole 0) F 0 (st_ref03_Whole_0 t2 t3 c1_0 c1_1 c1_2 c1_3) (k_ref03_Whole_0 F Post) = n_ref03_Whole_0 F (fun r0 => Post (.bool r0)) t2 t3 c1_0 c1_1 c1_2 c1_3 := by
  rw [loop_ref03_Whole_0]
  have h0 : (fun t2 t3 c1_0 c1_1 c1_2 c1_3 => k_ref03_Whole_0 F Post .ret (st_ref03_Whole_0 t2 t3 c1_0 c1_1 c1_2 c1_3)) = (fun t2 t3 c1_0 c1_1 c1_2 c1_3 => g_ref03_Whole_c0_0 (fun r0 => Post (.bool r0)) t2 t3 c1_0 c1_1 c1_2 c1_3) := by
    funext t2 t3 c1_0 c1_1 c1_2 c1_3
    rw [cont_ref03_Whole_0_0]
  have h1 : (fun t2 t3 c1_0 c1_1 c1_2 c1_3 => k_ref03_Whole_0 F Post (.exit 0) (st_ref03_Whole_0 t2 t3 c1_0 c1_1 c1_2 c1_3)) = (fun t2 t3 c1_0 c1_1 c1_2 c1_3 => g_ref03_Whole_c0_1 (fun r0 => Post (.bool r0)) t2 t3 c1_0 c1_1 c1_2 c1_3) := by
    funext t2 t3 c1_0 c1_1 c1_2 c1_3
    rw [cont_ref03_Whole_0_1]
  rw [h0, h1]
  rfl
theorem exec_ref03_Whole (F : Nat) (Post : AVal UU → Prop) (a0_Rects : List Rect) (a0_Cuts : List Rect) (a0_Forms : List Rect) (a0_Bends : List Bend) : exec C_flat_check Try.f30.ntmps M_ref03_Whole F 0 (bo Try.f30) (initSt [.agg [.sl .rect a0_Rects, .sl .rect a0_Cuts, .sl .rect a0_Forms, .sl .bend a0_Bends]]) (AEnds C_flat_check false Try.f30 Post) = w_ref03_Whole F a0_Rects a0_Cuts a0_Forms a0_Bends (fun r0 => Post (.bool r0)) := by
  rw [entry_ref03_Whole]
  have e0 : (fun t2 t3 c1_0 c1_1 c1_2 c1_3 => iter (exec C_flat_check Try.f30.ntmps M_ref03_Whole F 0 (cL (cB (cS (cF (cS (cS (bo Try.f30)))))))) (M_ref03_Whole 0) F 0 (st_ref03_Whole_0 t2 t3 c1_0 c1_1 c1_2 c1_3) (k_ref03_Whole_0 F Post)) = (n_ref03_Whole_0 F (fun r0 => Post (.bool r0))) := by
    funext t2 t3 c1_0 c1_1 c1_2 c1_3
    exact nl_ref03_Whole_0 F Post t2 t3 c1_0 c1_1 c1_2 c1_3
  rw [e0]
  rfl
def m_ref03_Whole : Model UU
  | [.agg [.sl .rect a0_Rects, .sl .rect a0_Cuts, .sl .rect a0_Forms, .sl .bend a0_Bends]] => some ([pre_ref03_Whole a0_Rects a0_Cuts a0_Forms a0_Bends], .bool (sp_ref03_Whole a0_Rects a0_Cuts a0_Forms a0_Bends))
  | _ => none
def C_ref03_Whole : Cfg UU := C_flat_check.add 30 m_ref03_Whole
theorem s_ref03_Whole : SumOK C_ref03_Whole := by
  refine s_flat_check.addD mixed (fn := Try.f30) (c := bo Try.f30) Try.func30 (by kernel_rfl) (by kernel_rfl) ?_
  intro xs cs r h hc
  unfold m_ref03_Whole at h
  split at h
  · rename_i a0_Rects a0_Cuts a0_Forms a0_Bends
    cases h
    obtain ⟨F, hF⟩ := ok_ref03_Whole a0_Rects a0_Cuts a0_Forms a0_Bends hc
    refine ⟨by kernel_rfl, M_ref03_Whole, F, false, ⟨?_⟩⟩
    rw [exec_ref03_Whole]
    refine hF _ ?_
    rfl
  · cases h
def k_ref03_move_rects_0 (F : Nat) (Post : AVal UU → Prop) : AEx → ASt UU → Prop := kBlock 0 (kSeq C_ref03_Whole Try.f34.ntmps M_ref03_move_rects F 0 (cS (cS (cS (bo Try.f34)))) (AEnds C_ref03_Whole true Try.f34 Post))
set_option maxRecDepth 100000 in
theorem step_ref03_move_rects_0 (F n r : Nat) (K : AEx → ASt UU → Prop) (t1 : List Rect) (t6 : Int) (c2_0 : Int) (c2_1 : Int) (c2_2 : Int) (l23 : List Rect) : iter (exec C_ref03_Whole Try.f34.ntmps M_ref03_move_rects F 0 (cL (cB (cS (cF (cS (cS (bo Try.f34)))))))) (M_ref03_move_rects 0) (n + 1) r (st_ref03_move_rects_0 t1 t6 c2_0 c2_1 c2_2 l23) K = g_ref03_move_rects_s0 (fun t1 t6 c2_0 c2_1 c2_2 l23 => iter (exec C_ref03_Whole Try.f34.ntmps M_ref03_move_rects F 0 (cL (cB (cS (cF (cS (cS (bo Try.f34)))))))) (M_ref03_move_rects 0) n (r + 1) (st_ref03_move_rects_0 t1 t6 c2_0 c2_1 c2_2 l23) K) (fun t1 t6 c2_0 c2_1 c2_2 l23 => K (.exit 0) (st_ref03_move_rects_0 t1 t6 c2_0 c2_1 c2_2 l23)) t1 t6 c2_0 c2_1 c2_2 l23 := by kernel_rfl
set_option maxRecDepth 100000 in
theorem cont_ref03_move_rects_0_0 (F : Nat) (Post : AVal UU → Prop) (t1 : List Rect) (t6 : Int) (c2_0 : Int) (c2_1 : Int) (c2_2 : Int) (l23 : List Rect) : k_ref03_move_rects_0 F Post (.exit 0) (st_ref03_move_rects_0 t1 t6 c2_0 c2_1 c2_2 l23) = g_ref03_move_rects_c0_0 (fun r0 => Post (.new .rect r0)) t1 t6 c2_0 c2_1 c2_2 l23 := by kernel_rfl
set_option maxRecDepth 100000 in
theorem entry_ref03_move_rects (F : Nat) (Post : AVal UU → Prop) (a0_turns : Int) (a0_x : Int) (a0_y : Int) (a1 : List Rect) : exec C_ref03_Whole Try.f34.ntmps M_ref03_move_rects F 0 (bo Try.f34) (initSt [.agg [.int .i64 a0_turns, .int .i64 a0_x, .int .i64 a0_y], .sl .rect a1]) (AEnds C_ref03_Whole true Try.f34 Post) = g_ref03_move_rects_e a0_turns a0_x a0_y a1 (fun r0 => Post (.new .rect r0)) (fun t1 t6 c2_0 c2_1 c2_2 l23 => iter (exec C_ref03_Whole Try.f34.ntmps M_ref03_move_rects F 0 (cL (cB (cS (cF (cS (cS (bo Try.f34)))))))) (M_ref03_move_rects 0) F 0 (st_ref03_move_rects_0 t1 t6 c2_0 c2_1 c2_2 l23) (k_ref03_move_rects_0 F Post)) := by kernel_rfl
theorem loop_ref03_move_rects_0 (F : Nat) (K : AEx → ASt UU → Prop) : ∀ (n r : Nat) (t1 : List Rect) (t6 : Int) (c2_0 : Int) (c2_1 : Int) (c2_2 : Int) (l23 : List Rect), iter (exec C_ref03_Whole Try.f34.ntmps M_ref03_move_rects F 0 (cL (cB (cS (cF (cS (cS (bo Try.f34)))))))) (M_ref03_move_rects 0) n r (st_ref03_move_rects_0 t1 t6 c2_0 c2_1 c2_2 l23) K = w_ref03_move_rects_0 F  (fun t1 t6 c2_0 c2_1 c2_2 l23 => K (.exit 0) (st_ref03_move_rects_0 t1 t6 c2_0 c2_1 c2_2 l23)) n t1 t6 c2_0 c2_1 c2_2 l23 := by
  intro n
  induction n with
  | zero => intros; rfl
  | succ n ih =>
    intro r t1 t6 c2_0 c2_1 c2_2 l23
    have e : (fun t1 t6 c2_0 c2_1 c2_2 l23 => iter (exec C_ref03_Whole Try.f34.ntmps M_ref03_move_rects F 0 (cL (cB (cS (cF (cS (cS (bo Try.f34)))))))) (M_ref03_move_rects 0) n (r + 1) (st_ref03_move_rects_0 t1 t6 c2_0 c2_1 c2_2 l23) K) = w_ref03_move_rects_0 F  (fun t1 t6 c2_0 c2_1 c2_2 l23 => K (.exit 0) (st_ref03_move_rects_0 t1 t6 c2_0 c2_1 c2_2 l23)) n := by
      funext t1 t6 c2_0 c2_1 c2_2 l23
      exact ih (r + 1) t1 t6 c2_0 c2_1 c2_2 l23
    rw [step_ref03_move_rects_0, e]
    rfl
theorem nl_ref03_move_rects_0 (F : Nat) (Post : AVal UU → Prop) (t1 : List Rect) (t6 : Int) (c2_0 : Int) (c2_1 : Int) (c2_2 : Int) (l23 : List Rect) : iter (exec C_ref03_Whole Try.f34.ntmps M_ref03_move_rects F 0 (cL (cB (cS (cF (cS (cS (bo Try.f34)))))))) (M_ref03_move_rects 0) F 0 (st_ref03_move_rects_0 t1 t6 c2_0 c2_1 c2_2 l23) (k_ref03_move_rects_0 F Post) = n_ref03_move_rects_0 F (fun r0 => Post (.new .rect r0)) t1 t6 c2_0 c2_1 c2_2 l23 := by
  rw [loop_ref03_move_rects_0]
  have h0 : (fun t1 t6 c2_0 c2_1 c2_2 l23 => k_ref03_move_rects_0 F Post (.exit 0) (st_ref03_move_rects_0 t1 t6 c2_0 c2_1 c2_2 l23)) = (fun t1 t6 c2_0 c2_1 c2_2 l23 => g_ref03_move_rects_c0_0 (fun r0 => Post (.new .rect r0)) t1 t6 c2_0 c2_1 c2_2 l23) := by
    funext t1 t6 c2_0 c2_1 c2_2 l23
    rw [cont_ref03_move_rects_0_0]
  rw [h0]
  rfl
theorem exec_ref03_move_rects (F : Nat) (Post : AVal UU → Prop) (a0_turns : Int) (a0_x : Int) (a0_y : Int) (a1 : List Rect) : exec C_ref03_Whole Try.f34.ntmps M_ref03_move_rects F 0 (bo Try.f34) (initSt [.agg [.int .i64 a0_turns, .int .i64 a0_x, .int .i64 a0_y], .sl .rect a1]) (AEnds C_ref03_Whole true Try.f34 Post) = w_ref03_move_rects F a0_turns a0_x a0_y a1 (fun r0 => Post (.new .rect r0)) := by
  rw [entry_ref03_move_rects]
  have e0 : (fun t1 t6 c2_0 c2_1 c2_2 l23 => iter (exec C_ref03_Whole Try.f34.ntmps M_ref03_move_rects F 0 (cL (cB (cS (cF (cS (cS (bo Try.f34)))))))) (M_ref03_move_rects 0) F 0 (st_ref03_move_rects_0 t1 t6 c2_0 c2_1 c2_2 l23) (k_ref03_move_rects_0 F Post)) = (n_ref03_move_rects_0 F (fun r0 => Post (.new .rect r0))) := by
    funext t1 t6 c2_0 c2_1 c2_2 l23
    exact nl_ref03_move_rects_0 F Post t1 t6 c2_0 c2_1 c2_2 l23
  rw [e0]
  rfl
def m_ref03_move_rects : Model UU
  | [.agg [.int .i64 a0_turns, .int .i64 a0_x, .int .i64 a0_y], .sl .rect a1] => some ([pre_ref03_move_rects a0_turns a0_x a0_y a1], .new .rect (sp_ref03_move_rects a0_turns a0_x a0_y a1))
  | _ => none
def C_ref03_move_rects : Cfg UU := C_ref03_Whole.add 34 m_ref03_move_rects
theorem s_ref03_move_rects : SumOK C_ref03_move_rects := by
  refine s_ref03_Whole.addD mixed (fn := Try.f34) (c := bo Try.f34) Try.func34 (by kernel_rfl) (by kernel_rfl) ?_
  intro xs cs r h hc
  unfold m_ref03_move_rects at h
  split at h
  · rename_i a0_turns a0_x a0_y a1
    cases h
    obtain ⟨F, hF⟩ := ok_ref03_move_rects a0_turns a0_x a0_y a1 hc
    refine ⟨by kernel_rfl, M_ref03_move_rects, F, true, ⟨?_⟩⟩
    rw [exec_ref03_move_rects]
    refine hF _ ?_
    rfl
  · cases h
def k_ref03_Copy_0 (F : Nat) (Post : AVal UU → Prop) : AEx → ASt UU → Prop := kBlock 0 (kSeq C_ref03_move_rects Try.f10.ntmps M_ref03_Copy F 0 (cS (cS (cS (bo Try.f10)))) (AEnds C_ref03_move_rects true Try.f10 Post))
set_option maxRecDepth 100000 in
theorem step_ref03_Copy_0 (F n r : Nat) (K : AEx → ASt UU → Prop) (t4 : Int) (c1_0 : List Rect) (c1_1 : List Rect) (c1_2 : List Rect) (c1_3 : List Bend) (l33 : List Rect) (l34 : List Rect) (l35 : List Rect) (l36 : List Bend) : iter (exec C_ref03_move_rects Try.f10.ntmps M_ref03_Copy F 0 (cL (cB (cS (cF (cS (cS (bo Try.f10)))))))) (M_ref03_Copy 0) (n + 1) r (st_ref03_Copy_0 t4 c1_0 c1_1 c1_2 c1_3 l33 l34 l35 l36) K = g_ref03_Copy_s0 (fun t4 c1_0 c1_1 c1_2 c1_3 l33 l34 l35 l36 => iter (exec C_ref03_move_rects Try.f10.ntmps M_ref03_Copy F 0 (cL (cB (cS (cF (cS (cS (bo Try.f10)))))))) (M_ref03_Copy 0) n (r + 1) (st_ref03_Copy_0 t4 c1_0 c1_1 c1_2 c1_3 l33 l34 l35 l36) K) (fun t4 c1_0 c1_1 c1_2 c1_3 l33 l34 l35 l36 => K (.exit 0) (st_ref03_Copy_0 t4 c1_0 c1_1 c1_2 c1_3 l33 l34 l35 l36)) t4 c1_0 c1_1 c1_2 c1_3 l33 l34 l35 l36 := by kernel_rfl
set_option maxRecDepth 100000 in
theorem cont_ref03_Copy_0_0 (F : Nat) (Post : AVal UU → Prop) (t4 : Int) (c1_0 : List Rect) (c1_1 : List Rect) (c1_2 : List Rect) (c1_3 : List Bend) (l33 : List Rect) (l34 : List Rect) (l35 : List Rect) (l36 : List Bend) : k_ref03_Copy_0 F Post (.exit 0) (st_ref03_Copy_0 t4 c1_0 c1_1 c1_2 c1_3 l33 l34 l35 l36) = g_ref03_Copy_c0_0 (fun r0_Rects r0_Cuts r0_Forms r0_Bends => Post (.agg [.new .rect r0_Rects, .new .rect r0_Cuts, .new .rect r0_Forms, .new .bend r0_Bends])) t4 c1_0 c1_1 c1_2 c1_3 l33 l34 l35 l36 := by kernel_rfl
set_option maxRecDepth 100000 in
theorem entry_ref03_Copy (F : Nat) (Post : AVal UU → Prop) (a0_Rects : List Rect) (a0_Cuts : List Rect) (a0_Forms : List Rect) (a0_Bends : List Bend) : exec C_ref03_move_rects Try.f10.ntmps M_ref03_Copy F 0 (bo Try.f10) (initSt [.agg [.sl .rect a0_Rects, .sl .rect a0_Cuts, .sl .rect a0_Forms, .sl .bend a0_Bends]]) (AEnds C_ref03_move_rects true Try.f10 Post) = g_ref03_Copy_e a0_Rects a0_Cuts a0_Forms a0_Bends (fun r0_Rects r0_Cuts r0_Forms r0_Bends => Post (.agg [.new .rect r0_Rects, .new .rect r0_Cuts, .new .rect r0_Forms, .new .bend r0_Bends])) (fun t4 c1_0 c1_1 c1_2 c1_3 l33 l34 l35 l36 => iter (exec C_ref03_move_rects Try.f10.ntmps M_ref03_Copy F 0 (cL (cB (cS (cF (cS (cS (bo Try.f10)))))))) (M_ref03_Copy 0) F 0 (st_ref03_Copy_0 t4 c1_0 c1_1 c1_2 c1_3 l33 l34 l35 l36) (k_ref03_Copy_0 F Post)) := by kernel_rfl
theorem loop_ref03_Copy_0 (F : Nat) (K : AEx → ASt UU → Prop) : ∀ (n r : Nat) (t4 : Int) (c1_0 : List Rect) (c1_1 : List Rect) (c1_2 : List Rect) (c1_3 : List Bend) (l33 : List Rect) (l34 : List Rect) (l35 : List Rect) (l36 : List Bend), iter (exec C_ref03_move_rects Try.f10.ntmps M_ref03_Copy F 0 (cL (cB (cS (cF (cS (cS (bo Try.f10)))))))) (M_ref03_Copy 0) n r (st_ref03_Copy_0 t4 c1_0 c1_1 c1_2 c1_3 l33 l34 l35 l36) K = w_ref03_Copy_0 F  (fun t4 c1_0 c1_1 c1_2 c1_3 l33 l34 l35 l36 => K (.exit 0) (st_ref03_Copy_0 t4 c1_0 c1_1 c1_2 c1_3 l33 l34 l35 l36)) n t4 c1_0 c1_1 c1_2 c1_3 l33 l34 l35 l36 := by
  intro n
  induction n with
  | zero => intros; rfl
  | succ n ih =>
    intro r t4 c1_0 c1_1 c1_2 c1_3 l33 l34 l35 l36
    have e : (fun t4 c1_0 c1_1 c1_2 c1_3 l33 l34 l35 l36 => iter (exec C_ref03_move_rects Try.f10.ntmps M_ref03_Copy F 0 (cL (cB (cS (cF (cS (cS (bo Try.f10)))))))) (M_ref03_Copy 0) n (r + 1) (st_ref03_Copy_0 t4 c1_0 c1_1 c1_2 c1_3 l33 l34 l35 l36) K) = w_ref03_Copy_0 F  (fun t4 c1_0 c1_1 c1_2 c1_3 l33 l34 l35 l36 => K (.exit 0) (st_ref03_Copy_0 t4 c1_0 c1_1 c1_2 c1_3 l33 l34 l35 l36)) n := by
      funext t4 c1_0 c1_1 c1_2 c1_3 l33 l34 l35 l36
      exact ih (r + 1) t4 c1_0 c1_1 c1_2 c1_3 l33 l34 l35 l36
    rw [step_ref03_Copy_0, e]
    rfl
theorem nl_ref03_Copy_0 (F : Nat) (Post : AVal UU → Prop) (t4 : Int) (c1_0 : List Rect) (c1_1 : List Rect) (c1_2 : List Rect) (c1_3 : List Bend) (l33 : List Rect) (l34 : List Rect) (l35 : List Rect) (l36 : List Bend) : iter (exec C_ref03_move_rects Try.f10.ntmps M_ref03_Copy F 0 (cL (cB (cS (cF (cS (cS (bo Try.f10)))))))) (M_ref03_Copy 0) F 0 (st_ref03_Copy_0 t4 c1_0 c1_1 c1_2 c1_3 l33 l34 l35 l36) (k_ref03_Copy_0 F Post) = n_ref03_Copy_0 F (fun r0_Rects r0_Cuts r0_Forms r0_Bends => Post (.agg [.new .rect r0_Rects, .new .rect r0_Cuts, .new .rect r0_Forms, .new .bend r0_Bends])) t4 c1_0 c1_1 c1_2 c1_3 l33 l34 l35 l36 := by
  rw [loop_ref03_Copy_0]
  have h0 : (fun t4 c1_0 c1_1 c1_2 c1_3 l33 l34 l35 l36 => k_ref03_Copy_0 F Post (.exit 0) (st_ref03_Copy_0 t4 c1_0 c1_1 c1_2 c1_3 l33 l34 l35 l36)) = (fun t4 c1_0 c1_1 c1_2 c1_3 l33 l34 l35 l36 => g_ref03_Copy_c0_0 (fun r0_Rects r0_Cuts r0_Forms r0_Bends => Post (.agg [.new .rect r0_Rects, .new .rect r0_Cuts, .new .rect r0_Forms, .new .bend r0_Bends])) t4 c1_0 c1_1 c1_2 c1_3 l33 l34 l35 l36) := by
    funext t4 c1_0 c1_1 c1_2 c1_3 l33 l34 l35 l36
    rw [cont_ref03_Copy_0_0]
  rw [h0]
  rfl
theorem exec_ref03_Copy (F : Nat) (Post : AVal UU → Prop) (a0_Rects : List Rect) (a0_Cuts : List Rect) (a0_Forms : List Rect) (a0_Bends : List Bend) : exec C_ref03_move_rects Try.f10.ntmps M_ref03_Copy F 0 (bo Try.f10) (initSt [.agg [.sl .rect a0_Rects, .sl .rect a0_Cuts, .sl .rect a0_Forms, .sl .bend a0_Bends]]) (AEnds C_ref03_move_rects true Try.f10 Post) = w_ref03_Copy F a0_Rects a0_Cuts a0_Forms a0_Bends (fun r0_Rects r0_Cuts r0_Forms r0_Bends => Post (.agg [.new .rect r0_Rects, .new .rect r0_Cuts, .new .rect r0_Forms, .new .bend r0_Bends])) := by
  rw [entry_ref03_Copy]
  have e0 : (fun t4 c1_0 c1_1 c1_2 c1_3 l33 l34 l35 l36 => iter (exec C_ref03_move_rects Try.f10.ntmps M_ref03_Copy F 0 (cL (cB (cS (cF (cS (cS (bo Try.f10)))))))) (M_ref03_Copy 0) F 0 (st_ref03_Copy_0 t4 c1_0 c1_1 c1_2 c1_3 l33 l34 l35 l36) (k_ref03_Copy_0 F Post)) = (n_ref03_Copy_0 F (fun r0_Rects r0_Cuts r0_Forms r0_Bends => Post (.agg [.new .rect r0_Rects, .new .rect r0_Cuts, .new .rect r0_Forms, .new .bend r0_Bends]))) := by
    funext t4 c1_0 c1_1 c1_2 c1_3 l33 l34 l35 l36
    exact nl_ref03_Copy_0 F Post t4 c1_0 c1_1 c1_2 c1_3 l33 l34 l35 l36
  rw [e0]
  rfl
def m_ref03_Copy : Model UU
  | [.agg [.sl .rect a0_Rects, .sl .rect a0_Cuts, .sl .rect a0_Forms, .sl .bend a0_Bends]] => some ([pre_ref03_Copy a0_Rects a0_Cuts a0_Forms a0_Bends], .agg [.new .rect ((sp_ref03_Copy a0_Rects a0_Cuts a0_Forms a0_Bends).1), .new .rect ((sp_ref03_Copy a0_Rects a0_Cuts a0_Forms a0_Bends).2.1), .new .rect ((sp_ref03_Copy a0_Rects a0_Cuts a0_Forms a0_Bends).2.2.1), .new .bend ((sp_ref03_Copy a0_Rects a0_Cuts a0_Forms a0_Bends).2.2.2)])
  | _ => none
def C_ref03_Copy : Cfg UU := C_ref03_move_rects.add 10 m_ref03_Copy
theorem s_ref03_Copy : SumOK C_ref03_Copy := by
  refine s_ref03_move_rects.addD mixed (fn := Try.f10) (c := bo Try.f10) Try.func10 (by kernel_rfl) (by kernel_rfl) ?_
  intro xs cs r h hc
  unfold m_ref03_Copy at h
  split at h
  · rename_i a0_Rects a0_Cuts a0_Forms a0_Bends
    cases h
    obtain ⟨F, hF⟩ := ok_ref03_Copy a0_Rects a0_Cuts a0_Forms a0_Bends hc
    refine ⟨by kernel_rfl, M_ref03_Copy, F, true, ⟨?_⟩⟩
    rw [exec_ref03_Copy]
    refine hF _ ?_
    rfl
  · cases h
def k_ref03_SameFlat_0 (F : Nat) (Post : AVal UU → Prop) : AEx → ASt UU → Prop := kBlock 0 (kSeq C_ref03_Copy Try.f16.ntmps M_ref03_SameFlat F 0 (cS (cS (cS (bo Try.f16)))) (AEnds C_ref03_Copy false Try.f16 Post))
set_option maxRecDepth 100000 in
theorem step_ref03_SameFlat_0 (F n r : Nat) (K : AEx → ASt UU → Prop) (t4 : Bool) (t5 : Int) (c2_0 : List Rect) (c2_1 : List Rect) (c2_2 : List Rect) (c2_3 : List Bend) (c3_0 : List Rect) (c3_1 : List Rect) (c3_2 : List Rect) (c3_3 : List Bend) : iter (exec C_ref03_Copy Try.f16.ntmps M_ref03_SameFlat F 0 (cL (cB (cS (cF (cS (cS (bo Try.f16)))))))) (M_ref03_SameFlat 0) (n + 1) r (st_ref03_SameFlat_0 t4 t5 c2_0 c2_1 c2_2 c2_3 c3_0 c3_1 c3_2 c3_3) K = g_ref03_SameFlat_s0 (fun t4 t5 c2_0 c2_1 c2_2 c2_3 c3_0 c3_1 c3_2 c3_3 => iter (exec C_ref03_Copy Try.f16.ntmps M_ref03_SameFlat F 0 (cL (cB (cS (cF (cS (cS (bo Try.f16)))))))) (M_ref03_SameFlat 0) n (r + 1) (st_ref03_SameFlat_0 t4 t5 c2_0 c2_1 c2_2 c2_3 c3_0 c3_1 c3_2 c3_3) K) (fun t4 t5 c2_0 c2_1 c2_2 c2_3 c3_0 c3_1 c3_2 c3_3 => K .ret (st_ref03_SameFlat_0 t4 t5 c2_0 c2_1 c2_2 c2_3 c3_0 c3_1 c3_2 c3_3)) (fun t4 t5 c2_0 c2_1 c2_2 c2_3 c3_0 c3_1 c3_2 c3_3 => K (.exit 0) (st_ref03_SameFlat_0 t4 t5 c2_0 c2_1 c2_2 c2_3 c3_0 c3_1 c3_2 c3_3)) t4 t5 c2_0 c2_1 c2_2 c2_3 c3_0 c3_1 c3_2 c3_3 := by kernel_rfl
set_option maxRecDepth 100000 in
theorem cont_ref03_SameFlat_0_0 (F : Nat) (Post : AVal UU → Prop) (t4 : Bool) (t5 : Int) (c2_0 : List Rect) (c2_1 : List Rect) (c2_2 : List Rect) (c2_3 : List Bend) (c3_0 : List Rect) (c3_1 : List Rect) (c3_2 : List Rect) (c3_3 : List Bend) : k_ref03_SameFlat_0 F Post .ret (st_ref03_SameFlat_0 t4 t5 c2_0 c2_1 c2_2 c2_3 c3_0 c3_1 c3_2 c3_3) = g_ref03_SameFlat_c0_0 (fun r0 => Post (.bool r0)) t4 t5 c2_0 c2_1 c2_2 c2_3 c3_0 c3_1 c3_2 c3_3 := by kernel_rfl
set_option maxRecDepth 100000 in
theorem cont_ref03_SameFlat_0_1 (F : Nat) (Post : AVal UU → Prop) (t4 : Bool) (t5 : Int) (c2_0 : List Rect) (c2_1 : List Rect) (c2_2 : List Rect) (c2_3 : List Bend) (c3_0 : List Rect) (c3_1 : List Rect) (c3_2 : List Rect) (c3_3 : List Bend) : k_ref03_SameFlat_0 F Post (.exit 0) (st_ref03_SameFlat_0 t4 t5 c2_0 c2_1 c2_2 c2_3 c3_0 c3_1 c3_2 c3_3) = g_ref03_SameFlat_c0_1 (fun r0 => Post (.bool r0)) t4 t5 c2_0 c2_1 c2_2 c2_3 c3_0 c3_1 c3_2 c3_3 := by kernel_rfl
set_option maxRecDepth 100000 in
theorem entry_ref03_SameFlat (F : Nat) (Post : AVal UU → Prop) (a0_Rects : List Rect) (a0_Cuts : List Rect) (a0_Forms : List Rect) (a0_Bends : List Bend) (a1_Rects : List Rect) (a1_Cuts : List Rect) (a1_Forms : List Rect) (a1_Bends : List Bend) : exec C_ref03_Copy Try.f16.ntmps M_ref03_SameFlat F 0 (bo Try.f16) (initSt [.agg [.sl .rect a0_Rects, .sl .rect a0_Cuts, .sl .rect a0_Forms, .sl .bend a0_Bends], .agg [.sl .rect a1_Rects, .sl .rect a1_Cuts, .sl .rect a1_Forms, .sl .bend a1_Bends]]) (AEnds C_ref03_Copy false Try.f16 Post) = g_ref03_SameFlat_e a0_Rects a0_Cuts a0_Forms a0_Bends a1_Rects a1_Cuts a1_Forms a1_Bends (fun r0 => Post (.bool r0)) (fun t4 t5 c2_0 c2_1 c2_2 c2_3 c3_0 c3_1 c3_2 c3_3 => iter (exec C_ref03_Copy Try.f16.ntmps M_ref03_SameFlat F 0 (cL (cB (cS (cF (cS (cS (bo Try.f16)))))))) (M_ref03_SameFlat 0) F 0 (st_ref03_SameFlat_0 t4 t5 c2_0 c2_1 c2_2 c2_3 c3_0 c3_1 c3_2 c3_3) (k_ref03_SameFlat_0 F Post)) := by kernel_rfl
theorem loop_ref03_SameFlat_0 (F : Nat) (K : AEx → ASt UU → Prop) : ∀ (n r : Nat) (t4 : Bool) (t5 : Int) (c2_0 : List Rect) (c2_1 : List Rect) (c2_2 : List Rect) (c2_3 : List Bend) (c3_0 : List Rect) (c3_1 : List Rect) (c3_2 : List Rect) (c3_3 : List Bend), iter (exec C_ref03_Copy Try.f16.ntmps M_ref03_SameFlat F 0 (cL (cB (cS (cF (cS (cS (bo Try.f16)))))))) (M_ref03_SameFlat 0) n r (st_ref03_SameFlat_0 t4 t5 c2_0 c2_1 c2_2 c2_3 c3_0 c3_1 c3_2 c3_3) K = w_ref03_SameFlat_0 F  (fun t4 t5 c2_0 c2_1 c2_2 c2_3 c3_0 c3_1 c3_2 c3_3 => K .ret (st_ref03_SameFlat_0 t4 t5 c2_0 c2_1 c2_2 c2_3 c3_0 c3_1 c3_2 c3_3)) (fun t4 t5 c2_0 c2_1 c2_2 c2_3 c3_0 c3_1 c3_2 c3_3 => K (.exit 0) (st_ref03_SameFlat_0 t4 t5 c2_0 c2_1 c2_2 c2_3 c3_0 c3_1 c3_2 c3_3)) n t4 t5 c2_0 c2_1 c2_2 c2_3 c3_0 c3_1 c3_2 c3_3 := by
  intro n
  induction n with
  | zero => intros; rfl
  | succ n ih =>
    intro r t4 t5 c2_0 c2_1 c2_2 c2_3 c3_0 c3_1 c3_2 c3_3
    have e : (fun t4 t5 c2_0 c2_1 c2_2 c2_3 c3_0 c3_1 c3_2 c3_3 => iter (exec C_ref03_Copy Try.f16.ntmps M_ref03_SameFlat F 0 (cL (cB (cS (cF (cS (cS (bo Try.f16)))))))) (M_ref03_SameFlat 0) n (r + 1) (st_ref03_SameFlat_0 t4 t5 c2_0 c2_1 c2_2 c2_3 c3_0 c3_1 c3_2 c3_3) K) = w_ref03_SameFlat_0 F  (fun t4 t5 c2_0 c2_1 c2_2 c2_3 c3_0 c3_1 c3_2 c3_3 => K .ret (st_ref03_SameFlat_0 t4 t5 c2_0 c2_1 c2_2 c2_3 c3_0 c3_1 c3_2 c3_3)) (fun t4 t5 c2_0 c2_1 c2_2 c2_3 c3_0 c3_1 c3_2 c3_3 => K (.exit 0) (st_ref03_SameFlat_0 t4 t5 c2_0 c2_1 c2_2 c2_3 c3_0 c3_1 c3_2 c3_3)) n := by
      funext t4 t5 c2_0 c2_1 c2_2 c2_3 c3_0 c3_1 c3_2 c3_3
      exact ih (r + 1) t4 t5 c2_0 c2_1 c2_2 c2_3 c3_0 c3_1 c3_2 c3_3
    rw [step_ref03_SameFlat_0, e]
    rfl
theorem nl_ref03_SameFlat_0 (F : Nat) (Post : AVal UU → Prop) (t4 : Bool) (t5 : Int) (c2_0 : List Rect) (c2_1 : List Rect) (c2_2 : List Rect) (c2_3 : List Bend) (c3_0 : List Rect) (c3_1 : List Rect) (c3_2 : List Rect) (c3_3 : List Bend) : iter (exec C_ref03_Copy Try.f16.ntmps M_ref03_SameFlat F 0 (cL (cB (cS (cF (cS (cS (bo Try.f16)))))))) (M_ref03_SameFlat 0) F 0 (st_ref03_SameFlat_0 t4 t5 c2_0 c2_1 c2_2 c2_3 c3_0 c3_1 c3_2 c3_3) (k_ref03_SameFlat_0 F Post) = n_ref03_SameFlat_0 F (fun r0 => Post (.bool r0)) t4 t5 c2_0 c2_1 c2_2 c2_3 c3_0 c3_1 c3_2 c3_3 := by
  rw [loop_ref03_SameFlat_0]
  have h0 : (fun t4 t5 c2_0 c2_1 c2_2 c2_3 c3_0 c3_1 c3_2 c3_3 => k_ref03_SameFlat_0 F Post .ret (st_ref03_SameFlat_0 t4 t5 c2_0 c2_1 c2_2 c2_3 c3_0 c3_1 c3_2 c3_3)) = (fun t4 t5 c2_0 c2_1 c2_2 c2_3 c3_0 c3_1 c3_2 c3_3 => g_ref03_SameFlat_c0_0 (fun r0 => Post (.bool r0)) t4 t5 c2_0 c2_1 c2_2 c2_3 c3_0 c3_1 c3_2 c3_3) := by
    funext t4 t5 c2_0 c2_1 c2_2 c2_3 c3_0 c3_1 c3_2 c3_3
    rw [cont_ref03_SameFlat_0_0]
  have h1 : (fun t4 t5 c2_0 c2_1 c2_2 c2_3 c3_0 c3_1 c3_2 c3_3 => k_ref03_SameFlat_0 F Post (.exit 0) (st_ref03_SameFlat_0 t4 t5 c2_0 c2_1 c2_2 c2_3 c3_0 c3_1 c3_2 c3_3)) = (fun t4 t5 c2_0 c2_1 c2_2 c2_3 c3_0 c3_1 c3_2 c3_3 => g_ref03_SameFlat_c0_1 (fun r0 => Post (.bool r0)) t4 t5 c2_0 c2_1 c2_2 c2_3 c3_0 c3_1 c3_2 c3_3) := by
    funext t4 t5 c2_0 c2_1 c2_2 c2_3 c3_0 c3_1 c3_2 c3_3
    rw [cont_ref03_SameFlat_0_1]
  rw [h0, h1]
  rfl
theorem exec_ref03_SameFlat (F : Nat) (Post : AVal UU → Prop) (a0_Rects : List Rect) (a0_Cuts : List Rect) (a0_Forms : List Rect) (a0_Bends : List Bend) (a1_Rects : List Rect) (a1_Cuts : List Rect) (a1_Forms : List Rect) (a1_Bends : List Bend) : exec C_ref03_Copy Try.f16.ntmps M_ref03_SameFlat F 0 (bo Try.f16) (initSt [.agg [.sl .rect a0_Rects, .sl .rect a0_Cuts, .sl .rect a0_Forms, .sl .bend a0_Bends], .agg [.sl .rect a1_Rects, .sl .rect a1_Cuts, .sl .rect a1_Forms, .sl .bend a1_Bends]]) (AEnds C_ref03_Copy false Try.f16 Post) = w_ref03_SameFlat F a0_Rects a0_Cuts a0_Forms a0_Bends a1_Rects a1_Cuts a1_Forms a1_Bends (fun r0 => Post (.bool r0)) := by
  rw [entry_ref03_SameFlat]
  have e0 : (fun t4 t5 c2_0 c2_1 c2_2 c2_3 c3_0 c3_1 c3_2 c3_3 => iter (exec C_ref03_Copy Try.f16.ntmps M_ref03_SameFlat F 0 (cL (cB (cS (cF (cS (cS (bo Try.f16)))))))) (M_ref03_SameFlat 0) F 0 (st_ref03_SameFlat_0 t4 t5 c2_0 c2_1 c2_2 c2_3 c3_0 c3_1 c3_2 c3_3) (k_ref03_SameFlat_0 F Post)) = (n_ref03_SameFlat_0 F (fun r0 => Post (.bool r0))) := by
    funext t4 t5 c2_0 c2_1 c2_2 c2_3 c3_0 c3_1 c3_2 c3_3
    exact nl_ref03_SameFlat_0 F Post t4 t5 c2_0 c2_1 c2_2 c2_3 c3_0 c3_1 c3_2 c3_3
  rw [e0]
  rfl
def m_ref03_SameFlat : Model UU
  | [.agg [.sl .rect a0_Rects, .sl .rect a0_Cuts, .sl .rect a0_Forms, .sl .bend a0_Bends], .agg [.sl .rect a1_Rects, .sl .rect a1_Cuts, .sl .rect a1_Forms, .sl .bend a1_Bends]] => some ([pre_ref03_SameFlat a0_Rects a0_Cuts a0_Forms a0_Bends a1_Rects a1_Cuts a1_Forms a1_Bends], .bool (sp_ref03_SameFlat a0_Rects a0_Cuts a0_Forms a0_Bends a1_Rects a1_Cuts a1_Forms a1_Bends))
  | _ => none
def C_ref03_SameFlat : Cfg UU := C_ref03_Copy.add 16 m_ref03_SameFlat
theorem s_ref03_SameFlat : SumOK C_ref03_SameFlat := by
  refine s_ref03_Copy.addD mixed (fn := Try.f16) (c := bo Try.f16) Try.func16 (by kernel_rfl) (by kernel_rfl) ?_
  intro xs cs r h hc
  unfold m_ref03_SameFlat at h
  split at h
  · rename_i a0_Rects a0_Cuts a0_Forms a0_Bends a1_Rects a1_Cuts a1_Forms a1_Bends
    cases h
    obtain ⟨F, hF⟩ := ok_ref03_SameFlat a0_Rects a0_Cuts a0_Forms a0_Bends a1_Rects a1_Cuts a1_Forms a1_Bends hc
    refine ⟨by kernel_rfl, M_ref03_SameFlat, F, false, ⟨?_⟩⟩
    rw [exec_ref03_SameFlat]
    refine hF _ ?_
    rfl
  · cases h
end
end Go.Proofs.Ytohecfbnmmgimaa
