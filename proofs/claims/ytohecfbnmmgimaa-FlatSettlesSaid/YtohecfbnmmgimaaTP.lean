/- That the code says what the printed pieces say, by the kernel; printed by gen.py. Conditions: none. -/
import Derived.Test.YtohecfbnmmgimaaGP
import Derived.Test.YtohecfbnmmgimaaTO
namespace Go.Proofs.Ytohecfbnmmgimaa
open Go.Vm Go.RowKit
set_option linter.unusedVariables false
noncomputable section
def k_law03_FlatSettles_0 (F : Nat) (Post : AVal UU → Prop) : AEx → ASt UU → Prop := kBlock 0 (kSeq C_law03_Long Try.f3.ntmps M_law03_FlatSettles F 0 (cS (cS (cS (cS (cS (cS (cS (cS (cS (cS (cS (bo Try.f3)))))))))))) (AEnds C_law03_Long false Try.f3 Post))
set_option maxRecDepth 100000 in
theorem step_law03_FlatSettles_0 (F n r : Nat) (K : AEx → ASt UU → Prop) (t18 : Bool) (t19 : Int) (c2_0 : List Rect) (c2_1 : List Rect) (c2_2 : List Rect) (c2_3 : List Bend) (l106 : List Rect) (l107 : List Rect) (l108 : List Rect) (l109 : List Bend) (l110 : List Rect) (l111 : List Rect) (l112 : List Rect) (l113 : List Bend) : iter (exec C_law03_Long Try.f3.ntmps M_law03_FlatSettles F 0 (cL (cB (cS (cF (cS (cS (cS (cS (cS (cS (cS (cS (cS (cS (bo Try.f3)))))))))))))))) (M_law03_FlatSettles 0) (n + 1) r (st_law03_FlatSettles_0 t18 t19 c2_0 c2_1 c2_2 c2_3 l106 l107 l108 l109 l110 l111 l112 l113) K = g_law03_FlatSettles_s0 (fun t18 t19 c2_0 c2_1 c2_2 c2_3 l106 l107 l108 l109 l110 l111 l112 l113 => iter (exec C_law03_Long Try.f3.ntmps M_law03_FlatSettles F 0 (cL (cB (cS (cF (cS (cS (cS (cS (cS (cS (cS (cS (cS (cS (bo Try.f3)))))))))))))))) (M_law03_FlatSettles 0) n (r + 1) (st_law03_FlatSettles_0 t18 t19 c2_0 c2_1 c2_2 c2_3 l106 l107 l108 l109 l110 l111 l112 l113) K) (fun t18 t19 c2_0 c2_1 c2_2 c2_3 l106 l107 l108 l109 l110 l111 l112 l113 => K (.exit 0) (st_law03_FlatSettles_0 t18 t19 c2_0 c2_1 c2_2 c2_3 l106 l107 l108 l109 l110 l111 l112 l113)) t18 t19 c2_0 c2_1 c2_2 c2_3 l106 l107 l108 l109 l110 l111 l112 l113 := by kernel_rfl
set_option maxRecDepth 100000 in
theorem cont_law03_FlatSettles_0_0 (F : Nat) (Post : AVal UU → Prop) (t18 : Bool) (t19 : Int) (c2_0 : List Rect) (c2_1 : List Rect) (c2_2 : List Rect) (c2_3 : List Bend) (l106 : List Rect) (l107 : List Rect) (l108 : List Rect) (l109 : List Bend) (l110 : List Rect) (l111 : List Rect) (l112 : List Rect) (l113 : List Bend) : k_law03_FlatSettles_0 F Post (.exit 0) (st_law03_FlatSettles_0 t18 t19 c2_0 c2_1 c2_2 c2_3 l106 l107 l108 l109 l110 l111 l112 l113) = g_law03_FlatSettles_c0_0 (fun r0 => Post (.bool r0)) t18 t19 c2_0 c2_1 c2_2 c2_3 l106 l107 l108 l109 l110 l111 l112 l113 := by kernel_rfl
set_option maxRecDepth 100000 in
theorem entry_law03_FlatSettles (F : Nat) (Post : AVal UU → Prop) (a0_Rects : List Rect) (a0_Cuts : List Rect) (a0_Forms : List Rect) (a0_Bends : List Bend) (a1 : Int) : exec C_law03_Long Try.f3.ntmps M_law03_FlatSettles F 0 (bo Try.f3) (initSt [.agg [.sl .rect a0_Rects, .sl .rect a0_Cuts, .sl .rect a0_Forms, .sl .bend a0_Bends], .int .i64 a1]) (AEnds C_law03_Long false Try.f3 Post) = g_law03_FlatSettles_e a0_Rects a0_Cuts a0_Forms a0_Bends a1 (fun r0 => Post (.bool r0)) (fun t18 t19 c2_0 c2_1 c2_2 c2_3 l106 l107 l108 l109 l110 l111 l112 l113 => iter (exec C_law03_Long Try.f3.ntmps M_law03_FlatSettles F 0 (cL (cB (cS (cF (cS (cS (cS (cS (cS (cS (cS (cS (cS (cS (bo Try.f3)))))))))))))))) (M_law03_FlatSettles 0) F 0 (st_law03_FlatSettles_0 t18 t19 c2_0 c2_1 c2_2 c2_3 l106 l107 l108 l109 l110 l111 l112 l113) (k_law03_FlatSettles_0 F Post)) := by kernel_rfl
theorem loop_law03_FlatSettles_0 (F : Nat) (K : AEx → ASt UU → Prop) : ∀ (n r : Nat) (t18 : Bool) (t19 : Int) (c2_0 : List Rect) (c2_1 : List Rect) (c2_2 : List Rect) (c2_3 : List Bend) (l106 : List Rect) (l107 : List Rect) (l108 : List Rect) (l109 : List Bend) (l110 : List Rect) (l111 : List Rect) (l112 : List Rect) (l113 : List Bend), iter (exec C_law03_Long Try.f3.ntmps M_law03_FlatSettles F 0 (cL (cB (cS (cF (cS (cS (cS (cS (cS (cS (cS (cS (cS (cS (bo Try.f3)))))))))))))))) (M_law03_FlatSettles 0) n r (st_law03_FlatSettles_0 t18 t19 c2_0 c2_1 c2_2 c2_3 l106 l107 l108 l109 l110 l111 l112 l113) K = w_law03_FlatSettles_0 F  (fun t18 t19 c2_0 c2_1 c2_2 c2_3 l106 l107 l108 l109 l110 l111 l112 l113 => K (.exit 0) (st_law03_FlatSettles_0 t18 t19 c2_0 c2_1 c2_2 c2_3 l106 l107 l108 l109 l110 l111 l112 l113)) n t18 t19 c2_0 c2_1 c2_2 c2_3 l106 l107 l108 l109 l110 l111 l112 l113 := by
  intro n
  induction n with
  | zero => intros; rfl
  | succ n ih =>
    intro r t18 t19 c2_0 c2_1 c2_2 c2_3 l106 l107 l108 l109 l110 l111 l112 l113
    have e : (fun t18 t19 c2_0 c2_1 c2_2 c2_3 l106 l107 l108 l109 l110 l111 l112 l113 => iter (exec C_law03_Long Try.f3.ntmps M_law03_FlatSettles F 0 (cL (cB (cS (cF (cS (cS (cS (cS (cS (cS (cS (cS (cS (cS (bo Try.f3)))))))))))))))) (M_law03_FlatSettles 0) n (r + 1) (st_law03_FlatSettles_0 t18 t19 c2_0 c2_1 c2_2 c2_3 l106 l107 l108 l109 l110 l111 l112 l113) K) = w_law03_FlatSettles_0 F  (fun t18 t19 c2_0 c2_1 c2_2 c2_3 l106 l107 l108 l109 l110 l111 l112 l113 => K (.exit 0) (st_law03_FlatSettles_0 t18 t19 c2_0 c2_1 c2_2 c2_3 l106 l107 l108 l109 l110 l111 l112 l113)) n := by
      funext t18 t19 c2_0 c2_1 c2_2 c2_3 l106 l107 l108 l109 l110 l111 l112 l113
      exact ih (r + 1) t18 t19 c2_0 c2_1 c2_2 c2_3 l106 l107 l108 l109 l110 l111 l112 l113
    rw [step_law03_FlatSettles_0, e]
    rfl
theorem nl_law03_FlatSettles_0 (F : Nat) (Post : AVal UU → Prop) (t18 : Bool) (t19 : Int) (c2_0 : List Rect) (c2_1 : List Rect) (c2_2 : List Rect) (c2_3 : List Bend) (l106 : List Rect) (l107 : List Rect) (l108 : List Rect) (l109 : List Bend) (l110 : List Rect) (l111 : List Rect) (l112 : List Rect) (l113 : List Bend) : iter (exec C_law03_Long Try.f3.ntmps M_law03_FlatSettles F 0 (cL (cB (cS (cF (cS (cS (cS (cS (cS (cS (cS (cS (cS (cS (bo Try.f3)))))))))))))))) (M_law03_FlatSettles 0) F 0 (st_law03_FlatSettles_0 t18 t19 c2_0 c2_1 c2_2 c2_3 l106 l107 l108 l109 l110 l111 l112 l113) (k_law03_FlatSettles_0 F Post) = n_law03_FlatSettles_0 F (fun r0 => Post (.bool r0)) t18 t19 c2_0 c2_1 c2_2 c2_3 l106 l107 l108 l109 l110 l111 l112 l113 := by
  rw [loop_law03_FlatSettles_0]
  have h0 : (fun t18 t19 c2_0 c2_1 c2_2 c2_3 l106 l107 l108 l109 l110 l111 l112 l113 => k_law03_FlatSettles_0 F Post (.exit 0) (st_law03_FlatSettles_0 t18 t19 c2_0 c2_1 c2_2 c2_3 l106 l107 l108 l109 l110 l111 l112 l113)) = (fun t18 t19 c2_0 c2_1 c2_2 c2_3 l106 l107 l108 l109 l110 l111 l112 l113 => g_law03_FlatSettles_c0_0 (fun r0 => Post (.bool r0)) t18 t19 c2_0 c2_1 c2_2 c2_3 l106 l107 l108 l109 l110 l111 l112 l113) := by
    funext t18 t19 c2_0 c2_1 c2_2 c2_3 l106 l107 l108 l109 l110 l111 l112 l113
    rw [cont_law03_FlatSettles_0_0]
  rw [h0]
  rfl
theorem exec_law03_FlatSettles (F : Nat) (Post : AVal UU → Prop) (a0_Rects : List Rect) (a0_Cuts : List Rect) (a0_Forms : List Rect) (a0_Bends : List Bend) (a1 : Int) : exec C_law03_Long Try.f3.ntmps M_law03_FlatSettles F 0 (bo Try.f3) (initSt [.agg [.sl .rect a0_Rects, .sl .rect a0_Cuts, .sl .rect a0_Forms, .sl .bend a0_Bends], .int .i64 a1]) (AEnds C_law03_Long false Try.f3 Post) = w_law03_FlatSettles F a0_Rects a0_Cuts a0_Forms a0_Bends a1 (fun r0 => Post (.bool r0)) := by
  rw [entry_law03_FlatSettles]
  have e0 : (fun t18 t19 c2_0 c2_1 c2_2 c2_3 l106 l107 l108 l109 l110 l111 l112 l113 => iter (exec C_law03_Long Try.f3.ntmps M_law03_FlatSettles F 0 (cL (cB (cS (cF (cS (cS (cS (cS (cS (cS (cS (cS (cS (cS (bo Try.f3)))))))))))))))) (M_law03_FlatSettles 0) F 0 (st_law03_FlatSettles_0 t18 t19 c2_0 c2_1 c2_2 c2_3 l106 l107 l108 l109 l110 l111 l112 l113) (k_law03_FlatSettles_0 F Post)) = (n_law03_FlatSettles_0 F (fun r0 => Post (.bool r0))) := by
    funext t18 t19 c2_0 c2_1 c2_2 c2_3 l106 l107 l108 l109 l110 l111 l112 l113
    exact nl_law03_FlatSettles_0 F Post t18 t19 c2_0 c2_1 c2_2 c2_3 l106 l107 l108 l109 l110 l111 l112 l113
  rw [e0]
  rfl
end
end Go.Proofs.Ytohecfbnmmgimaa
