/- That FlatTurnsBack returns true for all patterns and turns. Conditions: none. -/
import Derived.Test.YtohecfbnmmgimaaTb4
import Derived.Test.YtohecfbnmmgimaaTb6
import Derived.Test.YtohecfbnmmgimaaRows
import Derived.HandedShaped
import Derived.Test.YtohecfbnmmgimaaTb5
namespace Go.Proofs.Ytohecfbnmmgimaa
open Go.Vm Go.RowKit
set_option linter.unusedVariables false
noncomputable section
def k_geom_Area_0 (F : Nat) (Post : AVal UU → Prop) : AEx → ASt UU → Prop := kBlock 0 (kSeq C_flat_width Try.f48.ntmps M_geom_Area F 0 (cS (cS (cS (cS (cS (bo Try.f48)))))) (AEnds C_flat_width false Try.f48 Post))
def k_geom_Area_1 (F n r : Nat) (K : AEx → ASt UU → Prop) : AEx → ASt UU → Prop := kBlock 2 (kBlock 1 (kSeq C_flat_width Try.f48.ntmps M_geom_Area F 0 (cS (cS (cS (cL (cB (cS (cF (cS (cS (cS (cS (bo Try.f48)))))))))))) (kIter (exec C_flat_width Try.f48.ntmps M_geom_Area F 0 (cL (cB (cS (cF (cS (cS (cS (cS (bo Try.f48)))))))))) (M_geom_Area 0) n r K)))
set_option maxRecDepth 100000 in
theorem step_geom_Area_0 (F n r : Nat) (K : AEx → ASt UU → Prop) (t6 : Int) (t23 : Int) (t24 : Int) (c5_0 : List Int) (c5_1 : List Int) (l67 : List (List Bool)) : iter (exec C_flat_width Try.f48.ntmps M_geom_Area F 0 (cL (cB (cS (cF (cS (cS (cS (cS (bo Try.f48)))))))))) (M_geom_Area 0) (n + 1) r (st_geom_Area_0 t6 t23 t24 c5_0 c5_1 l67) K = g_geom_Area_s0 (fun t6 t23 t24 c5_0 c5_1 l67 => iter (exec C_flat_width Try.f48.ntmps M_geom_Area F 0 (cL (cB (cS (cF (cS (cS (cS (cS (bo Try.f48)))))))))) (M_geom_Area 0) n (r + 1) (st_geom_Area_0 t6 t23 t24 c5_0 c5_1 l67) K) (fun t6 t23 t24 c5_0 c5_1 l67 => K (.exit 0) (st_geom_Area_0 t6 t23 t24 c5_0 c5_1 l67)) t6 t23 t24 c5_0 c5_1 l67 (fun t6 t7 t23 t24 t29 t30 t31 c5_0 c5_1 l67 => iter (exec C_flat_width Try.f48.ntmps M_geom_Area F 2 (cL (cB (cS (cS (cB (cF (cS (cS (cL (cB (cS (cF (cS (cS (cS (cS (bo Try.f48)))))))))))))))))) (M_geom_Area 2) F 0 (st_geom_Area_1 t6 t7 t23 t24 t29 t30 t31 c5_0 c5_1 l67) (k_geom_Area_1 F n r K)) := by kernel_rfl
set_option maxRecDepth 100000 in
theorem cont_geom_Area_0_0 (F : Nat) (Post : AVal UU → Prop) (t6 : Int) (t23 : Int) (t24 : Int) (c5_0 : List Int) (c5_1 : List Int) (l67 : List (List Bool)) : k_geom_Area_0 F Post (.exit 0) (st_geom_Area_0 t6 t23 t24 c5_0 c5_1 l67) = g_geom_Area_c0_0 (fun r0 r1 => Post (.tup [.int .i64 r0, .int .i64 r1])) t6 t23 t24 c5_0 c5_1 l67 := by kernel_rfl
set_option maxRecDepth 100000 in
theorem step_geom_Area_1 (F n r : Nat) (K : AEx → ASt UU → Prop) (t6 : Int) (t7 : Int) (t23 : Int) (t24 : Int) (t29 : List Bool) (t30 : Int) (t31 : Int) (c5_0 : List Int) (c5_1 : List Int) (l67 : List (List Bool)) : iter (exec C_flat_width Try.f48.ntmps M_geom_Area F 2 (cL (cB (cS (cS (cB (cF (cS (cS (cL (cB (cS (cF (cS (cS (cS (cS (bo Try.f48)))))))))))))))))) (M_geom_Area 2) (n + 1) r (st_geom_Area_1 t6 t7 t23 t24 t29 t30 t31 c5_0 c5_1 l67) K = g_geom_Area_s1 (fun t6 t7 t23 t24 t29 t30 t31 c5_0 c5_1 l67 => iter (exec C_flat_width Try.f48.ntmps M_geom_Area F 2 (cL (cB (cS (cS (cB (cF (cS (cS (cL (cB (cS (cF (cS (cS (cS (cS (bo Try.f48)))))))))))))))))) (M_geom_Area 2) n (r + 1) (st_geom_Area_1 t6 t7 t23 t24 t29 t30 t31 c5_0 c5_1 l67) K) (fun t6 t7 t23 t24 t29 t30 t31 c5_0 c5_1 l67 => K (.exit 2) (st_geom_Area_1 t6 t7 t23 t24 t29 t30 t31 c5_0 c5_1 l67)) t6 t7 t23 t24 t29 t30 t31 c5_0 c5_1 l67 := by kernel_rfl
set_option maxRecDepth 100000 in
theorem cont_geom_Area_1_0 (F n r : Nat) (K : AEx → ASt UU → Prop) (t6 : Int) (t7 : Int) (t23 : Int) (t24 : Int) (t29 : List Bool) (t30 : Int) (t31 : Int) (c5_0 : List Int) (c5_1 : List Int) (l67 : List (List Bool)) : k_geom_Area_1 F n r K (.exit 2) (st_geom_Area_1 t6 t7 t23 t24 t29 t30 t31 c5_0 c5_1 l67) = g_geom_Area_c1_0 (fun t6 t23 t24 c5_0 c5_1 l67 => iter (exec C_flat_width Try.f48.ntmps M_geom_Area F 0 (cL (cB (cS (cF (cS (cS (cS (cS (bo Try.f48)))))))))) (M_geom_Area 0) n (r + 1) (st_geom_Area_0 t6 t23 t24 c5_0 c5_1 l67) K) (fun t6 t23 t24 c5_0 c5_1 l67 => K (.exit 0) (st_geom_Area_0 t6 t23 t24 c5_0 c5_1 l67)) t6 t7 t23 t24 t29 t30 t31 c5_0 c5_1 l67 := by kernel_rfl
set_option maxRecDepth 100000 in
theorem entry_geom_Area (F : Nat) (Post : AVal UU → Prop) (a0 : List Rect) : exec C_flat_width Try.f48.ntmps M_geom_Area F 0 (bo Try.f48) (initSt [.sl .rect a0]) (AEnds C_flat_width false Try.f48 Post) = g_geom_Area_e a0 (fun r0 r1 => Post (.tup [.int .i64 r0, .int .i64 r1])) (fun t6 t23 t24 c5_0 c5_1 l67 => iter (exec C_flat_width Try.f48.ntmps M_geom_Area F 0 (cL (cB (cS (cF (cS (cS (cS (cS (bo Try.f48)))))))))) (M_geom_Area 0) F 0 (st_geom_Area_0 t6 t23 t24 c5_0 c5_1 l67) (k_geom_Area_0 F Post)) := by kernel_rfl
theorem loop_geom_Area_1 (F : Nat) (K : AEx → ASt UU → Prop) : ∀ (n r : Nat) (t6 : Int) (t7 : Int) (t23 : Int) (t24 : Int) (t29 : List Bool) (t30 : Int) (t31 : Int) (c5_0 : List Int) (c5_1 : List Int) (l67 : List (List Bool)), iter (exec C_flat_width Try.f48.ntmps M_geom_Area F 2 (cL (cB (cS (cS (cB (cF (cS (cS (cL (cB (cS (cF (cS (cS (cS (cS (bo Try.f48)))))))))))))))))) (M_geom_Area 2) n r (st_geom_Area_1 t6 t7 t23 t24 t29 t30 t31 c5_0 c5_1 l67) K = w_geom_Area_1 F  (fun t6 t7 t23 t24 t29 t30 t31 c5_0 c5_1 l67 => K (.exit 2) (st_geom_Area_1 t6 t7 t23 t24 t29 t30 t31 c5_0 c5_1 l67)) n t6 t7 t23 t24 t29 t30 t31 c5_0 c5_1 l67 := by
  intro n
  induction n with
  | zero => intros; rfl
  | succ n ih =>
    intro r t6 t7 t23 t24 t29 t30 t31 c5_0 c5_1 l67
    have e : (fun t6 t7 t23 t24 t29 t30 t31 c5_0 c5_1 l67 => iter (exec C_flat_width Try.f48.ntmps M_geom_Area F 2 (cL (cB (cS (cS (cB (cF (cS (cS (cL (cB (cS (cF (cS (cS (cS (cS (bo Try.f48)))))))))))))))))) (M_geom_Area 2) n (r + 1) (st_geom_Area_1 t6 t7 t23 t24 t29 t30 t31 c5_0 c5_1 l67) K) = w_geom_Area_1 F  (fun t6 t7 t23 t24 t29 t30 t31 c5_0 c5_1 l67 => K (.exit 2) (st_geom_Area_1 t6 t7 t23 t24 t29 t30 t31 c5_0 c5_1 l67)) n := by
      funext t6 t7 t23 t24 t29 t30 t31 c5_0 c5_1 l67
      exact ih (r + 1) t6 t7 t23 t24 t29 t30 t31 c5_0 c5_1 l67
    rw [step_geom_Area_1, e]
    rfl
theorem nl_geom_Area_1 (F n r : Nat) (K : AEx → ASt UU → Prop) (t6 : Int) (t7 : Int) (t23 : Int) (t24 : Int) (t29 : List Bool) (t30 : Int) (t31 : Int) (c5_0 : List Int) (c5_1 : List Int) (l67 : List (List Bool)) : iter (exec C_flat_width Try.f48.ntmps M_geom_Area F 2 (cL (cB (cS (cS (cB (cF (cS (cS (cL (cB (cS (cF (cS (cS (cS (cS (bo Try.f48)))))))))))))))))) (M_geom_Area 2) F 0 (st_geom_Area_1 t6 t7 t23 t24 t29 t30 t31 c5_0 c5_1 l67) (k_geom_Area_1 F n r K) = n_geom_Area_1 F (fun t6 t23 t24 c5_0 c5_1 l67 => iter (exec C_flat_width Try.f48.ntmps M_geom_Area F 0 (cL (cB (cS (cF (cS (cS (cS (cS (bo Try.f48)))))))))) (M_geom_Area 0) n (r + 1) (st_geom_Area_0 t6 t23 t24 c5_0 c5_1 l67) K) (fun t6 t23 t24 c5_0 c5_1 l67 => K (.exit 0) (st_geom_Area_0 t6 t23 t24 c5_0 c5_1 l67)) t6 t7 t23 t24 t29 t30 t31 c5_0 c5_1 l67 := by
  rw [loop_geom_Area_1]
  have h0 : (fun t6 t7 t23 t24 t29 t30 t31 c5_0 c5_1 l67 => k_geom_Area_1 F n r K (.exit 2) (st_geom_Area_1 t6 t7 t23 t24 t29 t30 t31 c5_0 c5_1 l67)) = (fun t6 t7 t23 t24 t29 t30 t31 c5_0 c5_1 l67 => g_geom_Area_c1_0 (fun t6 t23 t24 c5_0 c5_1 l67 => iter (exec C_flat_width Try.f48.ntmps M_geom_Area F 0 (cL (cB (cS (cF (cS (cS (cS (cS (bo Try.f48)))))))))) (M_geom_Area 0) n (r + 1) (st_geom_Area_0 t6 t23 t24 c5_0 c5_1 l67) K) (fun t6 t23 t24 c5_0 c5_1 l67 => K (.exit 0) (st_geom_Area_0 t6 t23 t24 c5_0 c5_1 l67)) t6 t7 t23 t24 t29 t30 t31 c5_0 c5_1 l67) := by
    funext t6 t7 t23 t24 t29 t30 t31 c5_0 c5_1 l67
    rw [cont_geom_Area_1_0]
  rw [h0]
  rfl
theorem loop_geom_Area_0 (F : Nat) (K : AEx → ASt UU → Prop) : ∀ (n r : Nat) (t6 : Int) (t23 : Int) (t24 : Int) (c5_0 : List Int) (c5_1 : List Int) (l67 : List (List Bool)), iter (exec C_flat_width Try.f48.ntmps M_geom_Area F 0 (cL (cB (cS (cF (cS (cS (cS (cS (bo Try.f48)))))))))) (M_geom_Area 0) n r (st_geom_Area_0 t6 t23 t24 c5_0 c5_1 l67) K = w_geom_Area_0 F  (fun t6 t23 t24 c5_0 c5_1 l67 => K (.exit 0) (st_geom_Area_0 t6 t23 t24 c5_0 c5_1 l67)) n t6 t23 t24 c5_0 c5_1 l67 := by
  intro n
  induction n with
  | zero => intros; rfl
  | succ n ih =>
    intro r t6 t23 t24 c5_0 c5_1 l67
    have e : (fun t6 t23 t24 c5_0 c5_1 l67 => iter (exec C_flat_width Try.f48.ntmps M_geom_Area F 0 (cL (cB (cS (cF (cS (cS (cS (cS (bo Try.f48)))))))))) (M_geom_Area 0) n (r + 1) (st_geom_Area_0 t6 t23 t24 c5_0 c5_1 l67) K) = w_geom_Area_0 F  (fun t6 t23 t24 c5_0 c5_1 l67 => K (.exit 0) (st_geom_Area_0 t6 t23 t24 c5_0 c5_1 l67)) n := by
      funext t6 t23 t24 c5_0 c5_1 l67
      exact ih (r + 1) t6 t23 t24 c5_0 c5_1 l67
    have e1 : (fun t6 t7 t23 t24 t29 t30 t31 c5_0 c5_1 l67 => iter (exec C_flat_width Try.f48.ntmps M_geom_Area F 2 (cL (cB (cS (cS (cB (cF (cS (cS (cL (cB (cS (cF (cS (cS (cS (cS (bo Try.f48)))))))))))))))))) (M_geom_Area 2) F 0 (st_geom_Area_1 t6 t7 t23 t24 t29 t30 t31 c5_0 c5_1 l67) (k_geom_Area_1 F n r K)) = (n_geom_Area_1 F (fun t6 t23 t24 c5_0 c5_1 l67 => iter (exec C_flat_width Try.f48.ntmps M_geom_Area F 0 (cL (cB (cS (cF (cS (cS (cS (cS (bo Try.f48)))))))))) (M_geom_Area 0) n (r + 1) (st_geom_Area_0 t6 t23 t24 c5_0 c5_1 l67) K) (fun t6 t23 t24 c5_0 c5_1 l67 => K (.exit 0) (st_geom_Area_0 t6 t23 t24 c5_0 c5_1 l67))) := by
      funext t6 t7 t23 t24 t29 t30 t31 c5_0 c5_1 l67
      exact nl_geom_Area_1 F n r K t6 t7 t23 t24 t29 t30 t31 c5_0 c5_1 l67
    rw [step_geom_Area_0, e1, e]
    rfl
theorem nl_geom_Area_0 (F : Nat) (Post : AVal UU → Prop) (t6 : Int) (t23 : Int) (t24 : Int) (c5_0 : List Int) (c5_1 : List Int) (l67 : List (List Bool)) : iter (exec C_flat_width Try.f48.ntmps M_geom_Area F 0 (cL (cB (cS (cF (cS (cS (cS (cS (bo Try.f48)))))))))) (M_geom_Area 0) F 0 (st_geom_Area_0 t6 t23 t24 c5_0 c5_1 l67) (k_geom_Area_0 F Post) = n_geom_Area_0 F (fun r0 r1 => Post (.tup [.int .i64 r0, .int .i64 r1])) t6 t23 t24 c5_0 c5_1 l67 := by
  rw [loop_geom_Area_0]
  have h0 : (fun t6 t23 t24 c5_0 c5_1 l67 => k_geom_Area_0 F Post (.exit 0) (st_geom_Area_0 t6 t23 t24 c5_0 c5_1 l67)) = (fun t6 t23 t24 c5_0 c5_1 l67 => g_geom_Area_c0_0 (fun r0 r1 => Post (.tup [.int .i64 r0, .int .i64 r1])) t6 t23 t24 c5_0 c5_1 l67) := by
    funext t6 t23 t24 c5_0 c5_1 l67
    rw [cont_geom_Area_0_0]
  rw [h0]
  rfl
theorem exec_geom_Area (F : Nat) (Post : AVal UU → Prop) (a0 : List Rect) : exec C_flat_width Try.f48.ntmps M_geom_Area F 0 (bo Try.f48) (initSt [.sl .rect a0]) (AEnds C_flat_width false Try.f48 Post) = w_geom_Area F a0 (fun r0 r1 => Post (.tup [.int .i64 r0, .int .i64 r1])) := by
  rw [entry_geom_Area]
  have e0 : (fun t6 t23 t24 c5_0 c5_1 l67 => iter (exec C_flat_width Try.f48.ntmps M_geom_Area F 0 (cL (cB (cS (cF (cS (cS (cS (cS (bo Try.f48)))))))))) (M_geom_Area 0) F 0 (st_geom_Area_0 t6 t23 t24 c5_0 c5_1 l67) (k_geom_Area_0 F Post)) = (n_geom_Area_0 F (fun r0 r1 => Post (.tup [.int .i64 r0, .int .i64 r1]))) := by
    funext t6 t23 t24 c5_0 c5_1 l67
    exact nl_geom_Area_0 F Post t6 t23 t24 c5_0 c5_1 l67
  rw [e0]
  rfl
def m_geom_Area : Model UU
  | [.sl .rect a0] => some ([pre_geom_Area a0], .tup [.int .i64 ((sp_geom_Area a0).1), .int .i64 ((sp_geom_Area a0).2)])
  | _ => none
def C_geom_Area : Cfg UU := C_flat_width.add 48 m_geom_Area
theorem s_geom_Area : SumOK C_geom_Area := by
  refine s_flat_width.addD mixed (fn := Try.f48) (c := bo Try.f48) Try.func48 (by kernel_rfl) (by kernel_rfl) ?_
  intro xs cs r h hc
  unfold m_geom_Area at h
  split at h
  · rename_i a0
    cases h
    obtain ⟨F, hF⟩ := ok_geom_Area a0 hc
    refine ⟨by kernel_rfl, M_geom_Area, F, false, ⟨?_⟩⟩
    rw [exec_geom_Area]
    refine hF _ ?_
    rfl
  · cases h
def k_flat_area_0 (F : Nat) (Post : AVal UU → Prop) : AEx → ASt UU → Prop := kBlock 0 (kSeq C_geom_Area Try.f75.ntmps M_flat_area F 0 (cS (cS (cS (bo Try.f75)))) (AEnds C_geom_Area false Try.f75 Post))
def k_flat_area_1 (F : Nat) (Post : AVal UU → Prop) : AEx → ASt UU → Prop := kBlock 2 (kSeq C_geom_Area Try.f75.ntmps M_flat_area F 0 (cS (cS (cS (cS (cS (bo Try.f75)))))) (AEnds C_geom_Area false Try.f75 Post))
set_option maxRecDepth 100000 in
theorem step_flat_area_0 (F n r : Nat) (K : AEx → ASt UU → Prop) (t0 : List Rect) (t3 : List Int) (t8 : List Rect) (t9 : Int) (t10 : Int) : iter (exec C_geom_Area Try.f75.ntmps M_flat_area F 0 (cL (cB (cS (cF (cS (cS (bo Try.f75)))))))) (M_flat_area 0) (n + 1) r (st_flat_area_0 t0 t3 t8 t9 t10) K = g_flat_area_s0 (fun t0 t3 t8 t9 t10 => iter (exec C_geom_Area Try.f75.ntmps M_flat_area F 0 (cL (cB (cS (cF (cS (cS (bo Try.f75)))))))) (M_flat_area 0) n (r + 1) (st_flat_area_0 t0 t3 t8 t9 t10) K) (fun t0 t3 t8 t9 t10 => K (.exit 0) (st_flat_area_0 t0 t3 t8 t9 t10)) t0 t3 t8 t9 t10 := by kernel_rfl
set_option maxRecDepth 100000 in
theorem cont_flat_area_0_0 (F : Nat) (Post : AVal UU → Prop) (t0 : List Rect) (t3 : List Int) (t8 : List Rect) (t9 : Int) (t10 : Int) : k_flat_area_0 F Post (.exit 0) (st_flat_area_0 t0 t3 t8 t9 t10) = g_flat_area_c0_0 (fun r0 => Post (.int .i64 r0)) t0 t3 t8 t9 t10 (fun t0 t3 t6 t7 => iter (exec C_geom_Area Try.f75.ntmps M_flat_area F 2 (cL (cB (cS (cF (cS (cS (cS (cS (bo Try.f75)))))))))) (M_flat_area 2) F 0 (st_flat_area_1 t0 t3 t6 t7) (k_flat_area_1 F Post)) := by kernel_rfl
set_option maxRecDepth 100000 in
theorem step_flat_area_1 (F n r : Nat) (K : AEx → ASt UU → Prop) (t0 : List Rect) (t3 : List Int) (t6 : Int) (t7 : Int) : iter (exec C_geom_Area Try.f75.ntmps M_flat_area F 2 (cL (cB (cS (cF (cS (cS (cS (cS (bo Try.f75)))))))))) (M_flat_area 2) (n + 1) r (st_flat_area_1 t0 t3 t6 t7) K = g_flat_area_s1 (fun t0 t3 t6 t7 => iter (exec C_geom_Area Try.f75.ntmps M_flat_area F 2 (cL (cB (cS (cF (cS (cS (cS (cS (bo Try.f75)))))))))) (M_flat_area 2) n (r + 1) (st_flat_area_1 t0 t3 t6 t7) K) (fun t0 t3 t6 t7 => K (.exit 2) (st_flat_area_1 t0 t3 t6 t7)) t0 t3 t6 t7 := by kernel_rfl
set_option maxRecDepth 100000 in
theorem cont_flat_area_1_0 (F : Nat) (Post : AVal UU → Prop) (t0 : List Rect) (t3 : List Int) (t6 : Int) (t7 : Int) : k_flat_area_1 F Post (.exit 2) (st_flat_area_1 t0 t3 t6 t7) = g_flat_area_c1_0 (fun r0 => Post (.int .i64 r0)) t0 t3 t6 t7 := by kernel_rfl
set_option maxRecDepth 100000 in
theorem entry_flat_area (F : Nat) (Post : AVal UU → Prop) (a0 : List Rect) : exec C_geom_Area Try.f75.ntmps M_flat_area F 0 (bo Try.f75) (initSt [.sl .rect a0]) (AEnds C_geom_Area false Try.f75 Post) = g_flat_area_e a0 (fun r0 => Post (.int .i64 r0)) (fun t0 t3 t8 t9 t10 => iter (exec C_geom_Area Try.f75.ntmps M_flat_area F 0 (cL (cB (cS (cF (cS (cS (bo Try.f75)))))))) (M_flat_area 0) F 0 (st_flat_area_0 t0 t3 t8 t9 t10) (k_flat_area_0 F Post)) := by kernel_rfl
theorem loop_flat_area_1 (F : Nat) (K : AEx → ASt UU → Prop) : ∀ (n r : Nat) (t0 : List Rect) (t3 : List Int) (t6 : Int) (t7 : Int), iter (exec C_geom_Area Try.f75.ntmps M_flat_area F 2 (cL (cB (cS (cF (cS (cS (cS (cS (bo Try.f75)))))))))) (M_flat_area 2) n r (st_flat_area_1 t0 t3 t6 t7) K = w_flat_area_1 F  (fun t0 t3 t6 t7 => K (.exit 2) (st_flat_area_1 t0 t3 t6 t7)) n t0 t3 t6 t7 := by
  intro n
  induction n with
  | zero => intros; rfl
  | succ n ih =>
    intro r t0 t3 t6 t7
    have e : (fun t0 t3 t6 t7 => iter (exec C_geom_Area Try.f75.ntmps M_flat_area F 2 (cL (cB (cS (cF (cS (cS (cS (cS (bo Try.f75)))))))))) (M_flat_area 2) n (r + 1) (st_flat_area_1 t0 t3 t6 t7) K) = w_flat_area_1 F  (fun t0 t3 t6 t7 => K (.exit 2) (st_flat_area_1 t0 t3 t6 t7)) n := by
      funext t0 t3 t6 t7
      exact ih (r + 1) t0 t3 t6 t7
    rw [step_flat_area_1, e]
    rfl
theorem nl_flat_area_1 (F : Nat) (Post : AVal UU → Prop) (t0 : List Rect) (t3 : List Int) (t6 : Int) (t7 : Int) : iter (exec C_geom_Area Try.f75.ntmps M_flat_area F 2 (cL (cB (cS (cF (cS (cS (cS (cS (bo Try.f75)))))))))) (M_flat_area 2) F 0 (st_flat_area_1 t0 t3 t6 t7) (k_flat_area_1 F Post) = n_flat_area_1 F (fun r0 => Post (.int .i64 r0)) t0 t3 t6 t7 := by
  rw [loop_flat_area_1]
  have h0 : (fun t0 t3 t6 t7 => k_flat_area_1 F Post (.exit 2) (st_flat_area_1 t0 t3 t6 t7)) = (fun t0 t3 t6 t7 => g_flat_area_c1_0 (fun r0 => Post (.int .i64 r0)) t0 t3 t6 t7) := by
    funext t0 t3 t6 t7
    rw [cont_flat_area_1_0]
  rw [h0]
  rfl
theorem loop_flat_area_0 (F : Nat) (K : AEx → ASt UU → Prop) : ∀ (n r : Nat) (t0 : List Rect) (t3 : List Int) (t8 : List Rect) (t9 : Int) (t10 : Int), iter (exec C_geom_Area Try.f75.ntmps M_flat_area F 0 (cL (cB (cS (cF (cS (cS (bo Try.f75)))))))) (M_flat_area 0) n r (st_flat_area_0 t0 t3 t8 t9 t10) K = w_flat_area_0 F  (fun t0 t3 t8 t9 t10 => K (.exit 0) (st_flat_area_0 t0 t3 t8 t9 t10)) n t0 t3 t8 t9 t10 := by
  intro n
  induction n with
  | zero => intros; rfl
  | succ n ih =>
    intro r t0 t3 t8 t9 t10
    have e : (fun t0 t3 t8 t9 t10 => iter (exec C_geom_Area Try.f75.ntmps M_flat_area F 0 (cL (cB (cS (cF (cS (cS (bo Try.f75)))))))) (M_flat_area 0) n (r + 1) (st_flat_area_0 t0 t3 t8 t9 t10) K) = w_flat_area_0 F  (fun t0 t3 t8 t9 t10 => K (.exit 0) (st_flat_area_0 t0 t3 t8 t9 t10)) n := by
      funext t0 t3 t8 t9 t10
      exact ih (r + 1) t0 t3 t8 t9 t10
    rw [step_flat_area_0, e]
    rfl
theorem nl_flat_area_0 (F : Nat) (Post : AVal UU → Prop) (t0 : List Rect) (t3 : List Int) (t8 : List Rect) (t9 : Int) (t10 : Int) : iter (exec C_geom_Area Try.f75.ntmps M_flat_area F 0 (cL (cB (cS (cF (cS (cS (bo Try.f75)))))))) (M_flat_area 0) F 0 (st_flat_area_0 t0 t3 t8 t9 t10) (k_flat_area_0 F Post) = n_flat_area_0 F (fun r0 => Post (.int .i64 r0)) t0 t3 t8 t9 t10 := by
  rw [loop_flat_area_0]
  have e1 : (fun t0 t3 t6 t7 => iter (exec C_geom_Area Try.f75.ntmps M_flat_area F 2 (cL (cB (cS (cF (cS (cS (cS (cS (bo Try.f75)))))))))) (M_flat_area 2) F 0 (st_flat_area_1 t0 t3 t6 t7) (k_flat_area_1 F Post)) = (n_flat_area_1 F (fun r0 => Post (.int .i64 r0))) := by
    funext t0 t3 t6 t7
    exact nl_flat_area_1 F Post t0 t3 t6 t7
  have h0 : (fun t0 t3 t8 t9 t10 => k_flat_area_0 F Post (.exit 0) (st_flat_area_0 t0 t3 t8 t9 t10)) = (fun t0 t3 t8 t9 t10 => g_flat_area_c0_0 (fun r0 => Post (.int .i64 r0)) t0 t3 t8 t9 t10 (n_flat_area_1 F (fun r0 => Post (.int .i64 r0)))) := by
    funext t0 t3 t8 t9 t10
    rw [cont_flat_area_0_0, e1]
  rw [h0]
  rfl
theorem exec_flat_area (F : Nat) (Post : AVal UU → Prop) (a0 : List Rect) : exec C_geom_Area Try.f75.ntmps M_flat_area F 0 (bo Try.f75) (initSt [.sl .rect a0]) (AEnds C_geom_Area false Try.f75 Post) = w_flat_area F a0 (fun r0 => Post (.int .i64 r0)) := by
  rw [entry_flat_area]
  have e0 : (fun t0 t3 t8 t9 t10 => iter (exec C_geom_Area Try.f75.ntmps M_flat_area F 0 (cL (cB (cS (cF (cS (cS (bo Try.f75)))))))) (M_flat_area 0) F 0 (st_flat_area_0 t0 t3 t8 t9 t10) (k_flat_area_0 F Post)) = (n_flat_area_0 F (fun r0 => Post (.int .i64 r0))) := by
    funext t0 t3 t8 t9 t10
    exact nl_flat_area_0 F Post t0 t3 t8 t9 t10
  rw [e0]
  rfl
def m_flat_area : Model UU
  | [.sl .rect a0] => some ([pre_flat_area a0], .int .i64 (sp_flat_area a0))
  | _ => none
def C_flat_area : Cfg UU := C_geom_Area.add 75 m_flat_area
theorem s_flat_area : SumOK C_flat_area := by
  refine s_geom_Area.addD mixed (fn := Try.f75) (c := bo Try.f75) Try.func75 (by kernel_rfl) (by kernel_rfl) ?_
  intro xs cs r h hc
  unfold m_flat_area at h
  split at h
  · rename_i a0
    cases h
    obtain ⟨F, hF⟩ := ok_flat_area a0 hc
    refine ⟨by kernel_rfl, M_flat_area, F, false, ⟨?_⟩⟩
    rw [exec_flat_area]
    refine hF _ ?_
    rfl
  · cases h
end
end Go.Proofs.Ytohecfbnmmgimaa

namespace Go.Proofs.Ytohecfbnmmgimaa
open Go.Vm Go.RowKit
set_option linter.unusedVariables false
noncomputable section
def k_flat_alone_0 (F : Nat) (Post : AVal UU → Prop) : AEx → ASt UU → Prop := kBlock 0 (kSeq C_flat_area Try.f49.ntmps M_flat_alone F 0 (cS (cS (cS (bo Try.f49)))) (AEnds C_flat_area false Try.f49 Post))
def k_flat_alone_1 (F n r : Nat) (K : AEx → ASt UU → Prop) : AEx → ASt UU → Prop := kBlock 2 (kBlock 1 (kSeq C_flat_area Try.f49.ntmps M_flat_alone F 0 (cS (cS (cS (cL (cB (cS (cF (cS (cS (bo Try.f49)))))))))) (kIter (exec C_flat_area Try.f49.ntmps M_flat_alone F 0 (cL (cB (cS (cF (cS (cS (bo Try.f49)))))))) (M_flat_alone 0) n r K)))
set_option maxRecDepth 100000 in
theorem step_flat_alone_0 (F n r : Nat) (K : AEx → ASt UU → Prop) (t2 : List Rect) (t17 : List Rect) (t18 : Int) (t19 : Int) (c3_0 : Int) (c3_1 : Int) (c3_2 : Int) (c3_3 : Int) (l58 : List Rect) (l59 : List Rect) : iter (exec C_flat_area Try.f49.ntmps M_flat_alone F 0 (cL (cB (cS (cF (cS (cS (bo Try.f49)))))))) (M_flat_alone 0) (n + 1) r (st_flat_alone_0 t2 t17 t18 t19 c3_0 c3_1 c3_2 c3_3 l58 l59) K = g_flat_alone_s0 (fun t2 t17 t18 t19 c3_0 c3_1 c3_2 c3_3 l58 l59 => iter (exec C_flat_area Try.f49.ntmps M_flat_alone F 0 (cL (cB (cS (cF (cS (cS (bo Try.f49)))))))) (M_flat_alone 0) n (r + 1) (st_flat_alone_0 t2 t17 t18 t19 c3_0 c3_1 c3_2 c3_3 l58 l59) K) (fun t2 t17 t18 t19 c3_0 c3_1 c3_2 c3_3 l58 l59 => K (.exit 0) (st_flat_alone_0 t2 t17 t18 t19 c3_0 c3_1 c3_2 c3_3 l58 l59)) t2 t17 t18 t19 c3_0 c3_1 c3_2 c3_3 l58 l59 (fun t2 t17 t18 t19 t34 t35 t36 c3_0 c3_1 c3_2 c3_3 c11_0 c11_1 c11_2 c11_3 l58 l59 => iter (exec C_flat_area Try.f49.ntmps M_flat_alone F 2 (cL (cB (cS (cS (cT (cS (cS (cS (cB (cF (cS (cS (cL (cB (cS (cF (cS (cS (bo Try.f49)))))))))))))))))))) (M_flat_alone 2) F 0 (st_flat_alone_1 t2 t17 t18 t19 t34 t35 t36 c3_0 c3_1 c3_2 c3_3 c11_0 c11_1 c11_2 c11_3 l58 l59) (k_flat_alone_1 F n r K)) := by kernel_rfl
set_option maxRecDepth 100000 in
theorem cont_flat_alone_0_0 (F : Nat) (Post : AVal UU → Prop) (t2 : List Rect) (t17 : List Rect) (t18 : Int) (t19 : Int) (c3_0 : Int) (c3_1 : Int) (c3_2 : Int) (c3_3 : Int) (l58 : List Rect) (l59 : List Rect) : k_flat_alone_0 F Post (.exit 0) (st_flat_alone_0 t2 t17 t18 t19 c3_0 c3_1 c3_2 c3_3 l58 l59) = g_flat_alone_c0_0 (fun r0 => Post (.int .i64 r0)) t2 t17 t18 t19 c3_0 c3_1 c3_2 c3_3 l58 l59 := by kernel_rfl
set_option maxRecDepth 100000 in
theorem step_flat_alone_1 (F n r : Nat) (K : AEx → ASt UU → Prop) (t2 : List Rect) (t17 : List Rect) (t18 : Int) (t19 : Int) (t34 : List Rect) (t35 : Int) (t36 : Int) (c3_0 : Int) (c3_1 : Int) (c3_2 : Int) (c3_3 : Int) (c11_0 : Int) (c11_1 : Int) (c11_2 : Int) (c11_3 : Int) (l58 : List Rect) (l59 : List Rect) : iter (exec C_flat_area Try.f49.ntmps M_flat_alone F 2 (cL (cB (cS (cS (cT (cS (cS (cS (cB (cF (cS (cS (cL (cB (cS (cF (cS (cS (bo Try.f49)))))))))))))))))))) (M_flat_alone 2) (n + 1) r (st_flat_alone_1 t2 t17 t18 t19 t34 t35 t36 c3_0 c3_1 c3_2 c3_3 c11_0 c11_1 c11_2 c11_3 l58 l59) K = g_flat_alone_s1 (fun t2 t17 t18 t19 t34 t35 t36 c3_0 c3_1 c3_2 c3_3 c11_0 c11_1 c11_2 c11_3 l58 l59 => iter (exec C_flat_area Try.f49.ntmps M_flat_alone F 2 (cL (cB (cS (cS (cT (cS (cS (cS (cB (cF (cS (cS (cL (cB (cS (cF (cS (cS (bo Try.f49)))))))))))))))))))) (M_flat_alone 2) n (r + 1) (st_flat_alone_1 t2 t17 t18 t19 t34 t35 t36 c3_0 c3_1 c3_2 c3_3 c11_0 c11_1 c11_2 c11_3 l58 l59) K) (fun t2 t17 t18 t19 t34 t35 t36 c3_0 c3_1 c3_2 c3_3 c11_0 c11_1 c11_2 c11_3 l58 l59 => K (.exit 2) (st_flat_alone_1 t2 t17 t18 t19 t34 t35 t36 c3_0 c3_1 c3_2 c3_3 c11_0 c11_1 c11_2 c11_3 l58 l59)) t2 t17 t18 t19 t34 t35 t36 c3_0 c3_1 c3_2 c3_3 c11_0 c11_1 c11_2 c11_3 l58 l59 := by kernel_rfl
set_option maxRecDepth 100000 in
theorem cont_flat_alone_1_0 (F n r : Nat) (K : AEx → ASt UU → Prop) (t2 : List Rect) (t17 : List Rect) (t18 : Int) (t19 : Int) (t34 : List Rect) (t35 : Int) (t36 : Int) (c3_0 : Int) (c3_1 : Int) (c3_2 : Int) (c3_3 : Int) (c11_0 : Int) (c11_1 : Int) (c11_2 : Int) (c11_3 : Int) (l58 : List Rect) (l59 : List Rect) : k_flat_alone_1 F n r K (.exit 2) (st_flat_alone_1 t2 t17 t18 t19 t34 t35 t36 c3_0 c3_1 c3_2 c3_3 c11_0 c11_1 c11_2 c11_3 l58 l59) = g_flat_alone_c1_0 (fun t2 t17 t18 t19 c3_0 c3_1 c3_2 c3_3 l58 l59 => iter (exec C_flat_area Try.f49.ntmps M_flat_alone F 0 (cL (cB (cS (cF (cS (cS (bo Try.f49)))))))) (M_flat_alone 0) n (r + 1) (st_flat_alone_0 t2 t17 t18 t19 c3_0 c3_1 c3_2 c3_3 l58 l59) K) (fun t2 t17 t18 t19 c3_0 c3_1 c3_2 c3_3 l58 l59 => K (.exit 0) (st_flat_alone_0 t2 t17 t18 t19 c3_0 c3_1 c3_2 c3_3 l58 l59)) t2 t17 t18 t19 t34 t35 t36 c3_0 c3_1 c3_2 c3_3 c11_0 c11_1 c11_2 c11_3 l58 l59 := by kernel_rfl
set_option maxRecDepth 100000 in
theorem entry_flat_alone (F : Nat) (Post : AVal UU → Prop) (a0_X : Int) (a0_Y : Int) (a0_W : Int) (a0_H : Int) (a1 : List Rect) (a2 : List Rect) : exec C_flat_area Try.f49.ntmps M_flat_alone F 0 (bo Try.f49) (initSt [.agg [.int .i64 a0_X, .int .i64 a0_Y, .int .i64 a0_W, .int .i64 a0_H], .sl .rect a1, .sl .rect a2]) (AEnds C_flat_area false Try.f49 Post) = g_flat_alone_e a0_X a0_Y a0_W a0_H a1 a2 (fun r0 => Post (.int .i64 r0)) (fun t2 t17 t18 t19 c3_0 c3_1 c3_2 c3_3 l58 l59 => iter (exec C_flat_area Try.f49.ntmps M_flat_alone F 0 (cL (cB (cS (cF (cS (cS (bo Try.f49)))))))) (M_flat_alone 0) F 0 (st_flat_alone_0 t2 t17 t18 t19 c3_0 c3_1 c3_2 c3_3 l58 l59) (k_flat_alone_0 F Post)) := by kernel_rfl
theorem loop_flat_alone_1 (F : Nat) (K : AEx → ASt UU → Prop) : ∀ (n r : Nat) (t2 : List Rect) (t17 : List Rect) (t18 : Int) (t19 : Int) (t34 : List Rect) (t35 : Int) (t36 : Int) (c3_0 : Int) (c3_1 : Int) (c3_2 : Int) (c3_3 : Int) (c11_0 : Int) (c11_1 : Int) (c11_2 : Int) (c11_3 : Int) (l58 : List Rect) (l59 : List Rect), iter (exec C_flat_area Try.f49.ntmps M_flat_alone F 2 (cL (cB (cS (cS (cT (cS (cS (cS (cB (cF (cS (cS (cL (cB (cS (cF (cS (cS (bo Try.f49)))))))))))))))))))) (M_flat_alone 2) n r (st_flat_alone_1 t2 t17 t18 t19 t34 t35 t36 c3_0 c3_1 c3_2 c3_3 c11_0 c11_1 c11_2 c11_3 l58 l59) K = w_flat_alone_1 F  (fun t2 t17 t18 t19 t34 t35 t36 c3_0 c3_1 c3_2 c3_3 c11_0 c11_1 c11_2 c11_3 l58 l59 => K (.exit 2) (st_flat_alone_1 t2 t17 t18 t19 t34 t35 t36 c3_0 c3_1 c3_2 c3_3 c11_0 c11_1 c11_2 c11_3 l58 l59)) n t2 t17 t18 t19 t34 t35 t36 c3_0 c3_1 c3_2 c3_3 c11_0 c11_1 c11_2 c11_3 l58 l59 := by
  intro n
  induction n with
  | zero => intros; rfl
  | succ n ih =>
    intro r t2 t17 t18 t19 t34 t35 t36 c3_0 c3_1 c3_2 c3_3 c11_0 c11_1 c11_2 c11_3 l58 l59
    have e : (fun t2 t17 t18 t19 t34 t35 t36 c3_0 c3_1 c3_2 c3_3 c11_0 c11_1 c11_2 c11_3 l58 l59 => iter (exec C_flat_area Try.f49.ntmps M_flat_alone F 2 (cL (cB (cS (cS (cT (cS (cS (cS (cB (cF (cS (cS (cL (cB (cS (cF (cS (cS (bo Try.f49)))))))))))))))))))) (M_flat_alone 2) n (r + 1) (st_flat_alone_1 t2 t17 t18 t19 t34 t35 t36 c3_0 c3_1 c3_2 c3_3 c11_0 c11_1 c11_2 c11_3 l58 l59) K) = w_flat_alone_1 F  (fun t2 t17 t18 t19 t34 t35 t36 c3_0 c3_1 c3_2 c3_3 c11_0 c11_1 c11_2 c11_3 l58 l59 => K (.exit 2) (st_flat_alone_1 t2 t17 t18 t19 t34 t35 t36 c3_0 c3_1 c3_2 c3_3 c11_0 c11_1 c11_2 c11_3 l58 l59)) n := by
      funext t2 t17 t18 t19 t34 t35 t36 c3_0 c3_1 c3_2 c3_3 c11_0 c11_1 c11_2 c11_3 l58 l59
      exact ih (r + 1) t2 t17 t18 t19 t34 t35 t36 c3_0 c3_1 c3_2 c3_3 c11_0 c11_1 c11_2 c11_3 l58 l59
    rw [step_flat_alone_1, e]
    rfl
theorem nl_flat_alone_1 (F n r : Nat) (K : AEx → ASt UU → Prop) (t2 : List Rect) (t17 : List Rect) (t18 : Int) (t19 : Int) (t34 : List Rect) (t35 : Int) (t36 : Int) (c3_0 : Int) (c3_1 : Int) (c3_2 : Int) (c3_3 : Int) (c11_0 : Int) (c11_1 : Int) (c11_2 : Int) (c11_3 : Int) (l58 : List Rect) (l59 : List Rect) : iter (exec C_flat_area Try.f49.ntmps M_flat_alone F 2 (cL (cB (cS (cS (cT (cS (cS (cS (cB (cF (cS (cS (cL (cB (cS (cF (cS (cS (bo Try.f49)))))))))))))))))))) (M_flat_alone 2) F 0 (st_flat_alone_1 t2 t17 t18 t19 t34 t35 t36 c3_0 c3_1 c3_2 c3_3 c11_0 c11_1 c11_2 c11_3 l58 l59) (k_flat_alone_1 F n r K) = n_flat_alone_1 F (fun t2 t17 t18 t19 c3_0 c3_1 c3_2 c3_3 l58 l59 => iter (exec C_flat_area Try.f49.ntmps M_flat_alone F 0 (cL (cB (cS (cF (cS (cS (bo Try.f49)))))))) (M_flat_alone 0) n (r + 1) (st_flat_alone_0 t2 t17 t18 t19 c3_0 c3_1 c3_2 c3_3 l58 l59) K) (fun t2 t17 t18 t19 c3_0 c3_1 c3_2 c3_3 l58 l59 => K (.exit 0) (st_flat_alone_0 t2 t17 t18 t19 c3_0 c3_1 c3_2 c3_3 l58 l59)) t2 t17 t18 t19 t34 t35 t36 c3_0 c3_1 c3_2 c3_3 c11_0 c11_1 c11_2 c11_3 l58 l59 := by
  rw [loop_flat_alone_1]
  have h0 : (fun t2 t17 t18 t19 t34 t35 t36 c3_0 c3_1 c3_2 c3_3 c11_0 c11_1 c11_2 c11_3 l58 l59 => k_flat_alone_1 F n r K (.exit 2) (st_flat_alone_1 t2 t17 t18 t19 t34 t35 t36 c3_0 c3_1 c3_2 c3_3 c11_0 c11_1 c11_2 c11_3 l58 l59)) = (fun t2 t17 t18 t19 t34 t35 t36 c3_0 c3_1 c3_2 c3_3 c11_0 c11_1 c11_2 c11_3 l58 l59 => g_flat_alone_c1_0 (fun t2 t17 t18 t19 c3_0 c3_1 c3_2 c3_3 l58 l59 => iter (exec C_flat_area Try.f49.ntmps M_flat_alone F 0 (cL (cB (cS (cF (cS (cS (bo Try.f49)))))))) (M_flat_alone 0) n (r + 1) (st_flat_alone_0 t2 t17 t18 t19 c3_0 c3_1 c3_2 c3_3 l58 l59) K) (fun t2 t17 t18 t19 c3_0 c3_1 c3_2 c3_3 l58 l59 => K (.exit 0) (st_flat_alone_0 t2 t17 t18 t19 c3_0 c3_1 c3_2 c3_3 l58 l59)) t2 t17 t18 t19 t34 t35 t36 c3_0 c3_1 c3_2 c3_3 c11_0 c11_1 c11_2 c11_3 l58 l59) := by
    funext t2 t17 t18 t19 t34 t35 t36 c3_0 c3_1 c3_2 c3_3 c11_0 c11_1 c11_2 c11_3 l58 l59
    rw [cont_flat_alone_1_0]
  rw [h0]
  rfl
theorem loop_flat_alone_0 (F : Nat) (K : AEx → ASt UU → Prop) : ∀ (n r : Nat) (t2 : List Rect) (t17 : List Rect) (t18 : Int) (t19 : Int) (c3_0 : Int) (c3_1 : Int) (c3_2 : Int) (c3_3 : Int) (l58 : List Rect) (l59 : List Rect), iter (exec C_flat_area Try.f49.ntmps M_flat_alone F 0 (cL (cB (cS (cF (cS (cS (bo Try.f49)))))))) (M_flat_alone 0) n r (st_flat_alone_0 t2 t17 t18 t19 c3_0 c3_1 c3_2 c3_3 l58 l59) K = w_flat_alone_0 F  (fun t2 t17 t18 t19 c3_0 c3_1 c3_2 c3_3 l58 l59 => K (.exit 0) (st_flat_alone_0 t2 t17 t18 t19 c3_0 c3_1 c3_2 c3_3 l58 l59)) n t2 t17 t18 t19 c3_0 c3_1 c3_2 c3_3 l58 l59 := by
  intro n
  induction n with
  | zero => intros; rfl
  | succ n ih =>
    intro r t2 t17 t18 t19 c3_0 c3_1 c3_2 c3_3 l58 l59
    have e : (fun t2 t17 t18 t19 c3_0 c3_1 c3_2 c3_3 l58 l59 => iter (exec C_flat_area Try.f49.ntmps M_flat_alone F 0 (cL (cB (cS (cF (cS (cS (bo Try.f49)))))))) (M_flat_alone 0) n (r + 1) (st_flat_alone_0 t2 t17 t18 t19 c3_0 c3_1 c3_2 c3_3 l58 l59) K) = w_flat_alone_0 F  (fun t2 t17 t18 t19 c3_0 c3_1 c3_2 c3_3 l58 l59 => K (.exit 0) (st_flat_alone_0 t2 t17 t18 t19 c3_0 c3_1 c3_2 c3_3 l58 l59)) n := by
      funext t2 t17 t18 t19 c3_0 c3_1 c3_2 c3_3 l58 l59
      exact ih (r + 1) t2 t17 t18 t19 c3_0 c3_1 c3_2 c3_3 l58 l59
    have e1 : (fun t2 t17 t18 t19 t34 t35 t36 c3_0 c3_1 c3_2 c3_3 c11_0 c11_1 c11_2 c11_3 l58 l59 => iter (exec C_flat_area Try.f49.ntmps M_flat_alone F 2 (cL (cB (cS (cS (cT (cS (cS (cS (cB (cF (cS (cS (cL (cB (cS (cF (cS (cS (bo Try.f49)))))))))))))))))))) (M_flat_alone 2) F 0 (st_flat_alone_1 t2 t17 t18 t19 t34 t35 t36 c3_0 c3_1 c3_2 c3_3 c11_0 c11_1 c11_2 c11_3 l58 l59) (k_flat_alone_1 F n r K)) = (n_flat_alone_1 F (fun t2 t17 t18 t19 c3_0 c3_1 c3_2 c3_3 l58 l59 => iter (exec C_flat_area Try.f49.ntmps M_flat_alone F 0 (cL (cB (cS (cF (cS (cS (bo Try.f49)))))))) (M_flat_alone 0) n (r + 1) (st_flat_alone_0 t2 t17 t18 t19 c3_0 c3_1 c3_2 c3_3 l58 l59) K) (fun t2 t17 t18 t19 c3_0 c3_1 c3_2 c3_3 l58 l59 => K (.exit 0) (st_flat_alone_0 t2 t17 t18 t19 c3_0 c3_1 c3_2 c3_3 l58 l59))) := by
      funext t2 t17 t18 t19 t34 t35 t36 c3_0 c3_1 c3_2 c3_3 c11_0 c11_1 c11_2 c11_3 l58 l59
      exact nl_flat_alone_1 F n r K t2 t17 t18 t19 t34 t35 t36 c3_0 c3_1 c3_2 c3_3 c11_0 c11_1 c11_2 c11_3 l58 l59
    rw [step_flat_alone_0, e1, e]
    rfl
theorem nl_flat_alone_0 (F : Nat) (Post : AVal UU → Prop) (t2 : List Rect) (t17 : List Rect) (t18 : Int) (t19 : Int) (c3_0 : Int) (c3_1 : Int) (c3_2 : Int) (c3_3 : Int) (l58 : List Rect) (l59 : List Rect) : iter (exec C_flat_area Try.f49.ntmps M_flat_alone F 0 (cL (cB (cS (cF (cS (cS (bo Try.f49)))))))) (M_flat_alone 0) F 0 (st_flat_alone_0 t2 t17 t18 t19 c3_0 c3_1 c3_2 c3_3 l58 l59) (k_flat_alone_0 F Post) = n_flat_alone_0 F (fun r0 => Post (.int .i64 r0)) t2 t17 t18 t19 c3_0 c3_1 c3_2 c3_3 l58 l59 := by
  rw [loop_flat_alone_0]
  have h0 : (fun t2 t17 t18 t19 c3_0 c3_1 c3_2 c3_3 l58 l59 => k_flat_alone_0 F Post (.exit 0) (st_flat_alone_0 t2 t17 t18 t19 c3_0 c3_1 c3_2 c3_3 l58 l59)) = (fun t2 t17 t18 t19 c3_0 c3_1 c3_2 c3_3 l58 l59 => g_flat_alone_c0_0 (fun r0 => Post (.int .i64 r0)) t2 t17 t18 t19 c3_0 c3_1 c3_2 c3_3 l58 l59) := by
    funext t2 t17 t18 t19 c3_0 c3_1 c3_2 c3_3 l58 l59
    rw [cont_flat_alone_0_0]
  rw [h0]
  rfl
theorem exec_flat_alone (F : Nat) (Post : AVal UU → Prop) (a0_X : Int) (a0_Y : Int) (a0_W : Int) (a0_H : Int) (a1 : List Rect) (a2 : List Rect) : exec C_flat_area Try.f49.ntmps M_flat_alone F 0 (bo Try.f49) (initSt [.agg [.int .i64 a0_X, .int .i64 a0_Y, .int .i64 a0_W, .int .i64 a0_H], .sl .rect a1, .sl .rect a2]) (AEnds C_flat_area false Try.f49 Post) = w_flat_alone F a0_X a0_Y a0_W a0_H a1 a2 (fun r0 => Post (.int .i64 r0)) := by
  rw [entry_flat_alone]
  have e0 : (fun t2 t17 t18 t19 c3_0 c3_1 c3_2 c3_3 l58 l59 => iter (exec C_flat_area Try.f49.ntmps M_flat_alone F 0 (cL (cB (cS (cF (cS (cS (bo Try.f49)))))))) (M_flat_alone 0) F 0 (st_flat_alone_0 t2 t17 t18 t19 c3_0 c3_1 c3_2 c3_3 l58 l59) (k_flat_alone_0 F Post)) = (n_flat_alone_0 F (fun r0 => Post (.int .i64 r0))) := by
    funext t2 t17 t18 t19 c3_0 c3_1 c3_2 c3_3 l58 l59
    exact nl_flat_alone_0 F Post t2 t17 t18 t19 c3_0 c3_1 c3_2 c3_3 l58 l59
  rw [e0]
  rfl
def m_flat_alone : Model UU
  | [.agg [.int .i64 a0_X, .int .i64 a0_Y, .int .i64 a0_W, .int .i64 a0_H], .sl .rect a1, .sl .rect a2] => some ([pre_flat_alone a0_X a0_Y a0_W a0_H a1 a2], .int .i64 (sp_flat_alone a0_X a0_Y a0_W a0_H a1 a2))
  | _ => none
def C_flat_alone : Cfg UU := C_flat_area.add 49 m_flat_alone
theorem s_flat_alone : SumOK C_flat_alone := by
  refine s_flat_area.addD mixed (fn := Try.f49) (c := bo Try.f49) Try.func49 (by kernel_rfl) (by kernel_rfl) ?_
  intro xs cs r h hc
  unfold m_flat_alone at h
  split at h
  · rename_i a0_X a0_Y a0_W a0_H a1 a2
    cases h
    obtain ⟨F, hF⟩ := ok_flat_alone a0_X a0_Y a0_W a0_H a1 a2 hc
    refine ⟨by kernel_rfl, M_flat_alone, F, false, ⟨?_⟩⟩
    rw [exec_flat_alone]
    refine hF _ ?_
    rfl
  · cases h
end
end Go.Proofs.Ytohecfbnmmgimaa

namespace Go.Proofs.Ytohecfbnmmgimaa
open Go.Vm Go.RowKit
set_option linter.unusedVariables false
noncomputable section
def k_flat_Surface_0 (F : Nat) (Post : AVal UU → Prop) : AEx → ASt UU → Prop := kBlock 0 (kSeq C_flat_alone Try.f23.ntmps M_flat_Surface F 0 (cS (cS (cS (cS (cS (cS (bo Try.f23))))))) (AEnds C_flat_alone false Try.f23 Post))
set_option maxRecDepth 100000 in
theorem step_flat_Surface_0 (F n r : Nat) (K : AEx → ASt UU → Prop) (t5 : Int) (t7 : Int) (t25 : List Rect) (t26 : Int) (t27 : Int) (c1_0 : List Rect) (c1_1 : List Rect) (c1_2 : List Rect) (c1_3 : List Bend) : iter (exec C_flat_alone Try.f23.ntmps M_flat_Surface F 0 (cL (cB (cS (cF (cS (cS (cS (cS (cS (bo Try.f23))))))))))) (M_flat_Surface 0) (n + 1) r (st_flat_Surface_0 t5 t7 t25 t26 t27 c1_0 c1_1 c1_2 c1_3) K = g_flat_Surface_s0 (fun t5 t7 t25 t26 t27 c1_0 c1_1 c1_2 c1_3 => iter (exec C_flat_alone Try.f23.ntmps M_flat_Surface F 0 (cL (cB (cS (cF (cS (cS (cS (cS (cS (bo Try.f23))))))))))) (M_flat_Surface 0) n (r + 1) (st_flat_Surface_0 t5 t7 t25 t26 t27 c1_0 c1_1 c1_2 c1_3) K) (fun t5 t7 t25 t26 t27 c1_0 c1_1 c1_2 c1_3 => K (.exit 0) (st_flat_Surface_0 t5 t7 t25 t26 t27 c1_0 c1_1 c1_2 c1_3)) t5 t7 t25 t26 t27 c1_0 c1_1 c1_2 c1_3 := by kernel_rfl
set_option maxRecDepth 100000 in
theorem cont_flat_Surface_0_0 (F : Nat) (Post : AVal UU → Prop) (t5 : Int) (t7 : Int) (t25 : List Rect) (t26 : Int) (t27 : Int) (c1_0 : List Rect) (c1_1 : List Rect) (c1_2 : List Rect) (c1_3 : List Bend) : k_flat_Surface_0 F Post (.exit 0) (st_flat_Surface_0 t5 t7 t25 t26 t27 c1_0 c1_1 c1_2 c1_3) = g_flat_Surface_c0_0 (fun r0 r1 => Post (.tup [.int .i64 r0, .int .i64 r1])) t5 t7 t25 t26 t27 c1_0 c1_1 c1_2 c1_3 := by kernel_rfl
set_option maxRecDepth 100000 in
theorem entry_flat_Surface (F : Nat) (Post : AVal UU → Prop) (a0_Rects : List Rect) (a0_Cuts : List Rect) (a0_Forms : List Rect) (a0_Bends : List Bend) : exec C_flat_alone Try.f23.ntmps M_flat_Surface F 0 (bo Try.f23) (initSt [.agg [.sl .rect a0_Rects, .sl .rect a0_Cuts, .sl .rect a0_Forms, .sl .bend a0_Bends]]) (AEnds C_flat_alone false Try.f23 Post) = g_flat_Surface_e a0_Rects a0_Cuts a0_Forms a0_Bends (fun r0 r1 => Post (.tup [.int .i64 r0, .int .i64 r1])) (fun t5 t7 t25 t26 t27 c1_0 c1_1 c1_2 c1_3 => iter (exec C_flat_alone Try.f23.ntmps M_flat_Surface F 0 (cL (cB (cS (cF (cS (cS (cS (cS (cS (bo Try.f23))))))))))) (M_flat_Surface 0) F 0 (st_flat_Surface_0 t5 t7 t25 t26 t27 c1_0 c1_1 c1_2 c1_3) (k_flat_Surface_0 F Post)) := by kernel_rfl
theorem loop_flat_Surface_0 (F : Nat) (K : AEx → ASt UU → Prop) : ∀ (n r : Nat) (t5 : Int) (t7 : Int) (t25 : List Rect) (t26 : Int) (t27 : Int) (c1_0 : List Rect) (c1_1 : List Rect) (c1_2 : List Rect) (c1_3 : List Bend), iter (exec C_flat_alone Try.f23.ntmps M_flat_Surface F 0 (cL (cB (cS (cF (cS (cS (cS (cS (cS (bo Try.f23))))))))))) (M_flat_Surface 0) n r (st_flat_Surface_0 t5 t7 t25 t26 t27 c1_0 c1_1 c1_2 c1_3) K = w_flat_Surface_0 F  (fun t5 t7 t25 t26 t27 c1_0 c1_1 c1_2 c1_3 => K (.exit 0) (st_flat_Surface_0 t5 t7 t25 t26 t27 c1_0 c1_1 c1_2 c1_3)) n t5 t7 t25 t26 t27 c1_0 c1_1 c1_2 c1_3 := by
  intro n
  induction n with
  | zero => intros; rfl
  | succ n ih =>
    intro r t5 t7 t25 t26 t27 c1_0 c1_1 c1_2 c1_3
    have e : (fun t5 t7 t25 t26 t27 c1_0 c1_1 c1_2 c1_3 => iter (exec C_flat_alone Try.f23.ntmps M_flat_Surface F 0 (cL (cB (cS (cF (cS (cS (cS (cS (cS (bo Try.f23))))))))))) (M_flat_Surface 0) n (r + 1) (st_flat_Surface_0 t5 t7 t25 t26 t27 c1_0 c1_1 c1_2 c1_3) K) = w_flat_Surface_0 F  (fun t5 t7 t25 t26 t27 c1_0 c1_1 c1_2 c1_3 => K (.exit 0) (st_flat_Surface_0 t5 t7 t25 t26 t27 c1_0 c1_1 c1_2 c1_3)) n := by
      funext t5 t7 t25 t26 t27 c1_0 c1_1 c1_2 c1_3
      exact ih (r + 1) t5 t7 t25 t26 t27 c1_0 c1_1 c1_2 c1_3
    rw [step_flat_Surface_0, e]
    rfl
theorem nl_flat_Surface_0 (F : Nat) (Post : AVal UU → Prop) (t5 : Int) (t7 : Int) (t25 : List Rect) (t26 : Int) (t27 : Int) (c1_0 : List Rect) (c1_1 : List Rect) (c1_2 : List Rect) (c1_3 : List Bend) : iter (exec C_flat_alone Try.f23.ntmps M_flat_Surface F 0 (cL (cB (cS (cF (cS (cS (cS (cS (cS (bo Try.f23))))))))))) (M_flat_Surface 0) F 0 (st_flat_Surface_0 t5 t7 t25 t26 t27 c1_0 c1_1 c1_2 c1_3) (k_flat_Surface_0 F Post) = n_flat_Surface_0 F (fun r0 r1 => Post (.tup [.int .i64 r0, .int .i64 r1])) t5 t7 t25 t26 t27 c1_0 c1_1 c1_2 c1_3 := by
  rw [loop_flat_Surface_0]
  have h0 : (fun t5 t7 t25 t26 t27 c1_0 c1_1 c1_2 c1_3 => k_flat_Surface_0 F Post (.exit 0) (st_flat_Surface_0 t5 t7 t25 t26 t27 c1_0 c1_1 c1_2 c1_3)) = (fun t5 t7 t25 t26 t27 c1_0 c1_1 c1_2 c1_3 => g_flat_Surface_c0_0 (fun r0 r1 => Post (.tup [.int .i64 r0, .int .i64 r1])) t5 t7 t25 t26 t27 c1_0 c1_1 c1_2 c1_3) := by
    funext t5 t7 t25 t26 t27 c1_0 c1_1 c1_2 c1_3
    rw [cont_flat_Surface_0_0]
  rw [h0]
  rfl
theorem exec_flat_Surface (F : Nat) (Post : AVal UU → Prop) (a0_Rects : List Rect) (a0_Cuts : List Rect) (a0_Forms : List Rect) (a0_Bends : List Bend) : exec C_flat_alone Try.f23.ntmps M_flat_Surface F 0 (bo Try.f23) (initSt [.agg [.sl .rect a0_Rects, .sl .rect a0_Cuts, .sl .rect a0_Forms, .sl .bend a0_Bends]]) (AEnds C_flat_alone false Try.f23 Post) = w_flat_Surface F a0_Rects a0_Cuts a0_Forms a0_Bends (fun r0 r1 => Post (.tup [.int .i64 r0, .int .i64 r1])) := by
  rw [entry_flat_Surface]
  have e0 : (fun t5 t7 t25 t26 t27 c1_0 c1_1 c1_2 c1_3 => iter (exec C_flat_alone Try.f23.ntmps M_flat_Surface F 0 (cL (cB (cS (cF (cS (cS (cS (cS (cS (bo Try.f23))))))))))) (M_flat_Surface 0) F 0 (st_flat_Surface_0 t5 t7 t25 t26 t27 c1_0 c1_1 c1_2 c1_3) (k_flat_Surface_0 F Post)) = (n_flat_Surface_0 F (fun r0 r1 => Post (.tup [.int .i64 r0, .int .i64 r1]))) := by
    funext t5 t7 t25 t26 t27 c1_0 c1_1 c1_2 c1_3
    exact nl_flat_Surface_0 F Post t5 t7 t25 t26 t27 c1_0 c1_1 c1_2 c1_3
  rw [e0]
  rfl
def m_flat_Surface : Model UU
  | [.agg [.sl .rect a0_Rects, .sl .rect a0_Cuts, .sl .rect a0_Forms, .sl .bend a0_Bends]] => some ([pre_flat_Surface a0_Rects a0_Cuts a0_Forms a0_Bends], .tup [.int .i64 ((sp_flat_Surface a0_Rects a0_Cuts a0_Forms a0_Bends).1), .int .i64 ((sp_flat_Surface a0_Rects a0_Cuts a0_Forms a0_Bends).2)])
  | _ => none
def C_flat_Surface : Cfg UU := C_flat_alone.add 23 m_flat_Surface
theorem s_flat_Surface : SumOK C_flat_Surface := by
  refine s_flat_alone.addD mixed (fn := Try.f23) (c := bo Try.f23) Try.func23 (by kernel_rfl) (by kernel_rfl) ?_
  intro xs cs r h hc
  unfold m_flat_Surface at h
  split at h
  · rename_i a0_Rects a0_Cuts a0_Forms a0_Bends
    cases h
    obtain ⟨F, hF⟩ := ok_flat_Surface a0_Rects a0_Cuts a0_Forms a0_Bends hc
    refine ⟨by kernel_rfl, M_flat_Surface, F, false, ⟨?_⟩⟩
    rw [exec_flat_Surface]
    refine hF _ ?_
    rfl
  · cases h
end
end Go.Proofs.Ytohecfbnmmgimaa

namespace Go.Proofs.Ytohecfbnmmgimaa
open Go.Vm Go.RowKit
set_option linter.unusedVariables false
noncomputable section
set_option maxRecDepth 100000 in
theorem entry_law03_FlatTurnsBack (F : Nat) (Post : AVal UU → Prop) (a0_Rects : List Rect) (a0_Cuts : List Rect) (a0_Forms : List Rect) (a0_Bends : List Bend) (a1 : Int) (a2 : Int) : exec C_flat_Surface Try.f7.ntmps M_law03_FlatTurnsBack F 0 (bo Try.f7) (initSt [.agg [.sl .rect a0_Rects, .sl .rect a0_Cuts, .sl .rect a0_Forms, .sl .bend a0_Bends], .int .i64 a1, .int .i64 a2]) (AEnds C_flat_Surface false Try.f7 Post) = g_law03_FlatTurnsBack_e a0_Rects a0_Cuts a0_Forms a0_Bends a1 a2 (fun r0 => Post (.bool r0)) := by kernel_rfl
theorem exec_law03_FlatTurnsBack (F : Nat) (Post : AVal UU → Prop) (a0_Rects : List Rect) (a0_Cuts : List Rect) (a0_Forms : List Rect) (a0_Bends : List Bend) (a1 : Int) (a2 : Int) : exec C_flat_Surface Try.f7.ntmps M_law03_FlatTurnsBack F 0 (bo Try.f7) (initSt [.agg [.sl .rect a0_Rects, .sl .rect a0_Cuts, .sl .rect a0_Forms, .sl .bend a0_Bends], .int .i64 a1, .int .i64 a2]) (AEnds C_flat_Surface false Try.f7 Post) = w_law03_FlatTurnsBack F a0_Rects a0_Cuts a0_Forms a0_Bends a1 a2 (fun r0 => Post (.bool r0)) := by
  rw [entry_law03_FlatTurnsBack]
  rfl
end
end Go.Proofs.Ytohecfbnmmgimaa

namespace Go.Proofs.Ytohecfbnmmgimaa
open Go.Vm Go.ChangeShapes Go.WideShapes Go.ChangeAt Go.RowKit Go.Joins
set_option linter.unusedVariables false
noncomputable section

theorem own : ownKnob Try.prog.godebug = none := by kernel_rfl
theorem laidOut : laidOutB Try.prog = true := by kernel_rfl
theorem inv_of {W : World} (h : W.ShapedOpen Try.prog) : inv0 W := Try.laysM144.s1_3 W h

theorem rect_all (ns : List Int) (h : ns.length = UU.size .rect) : ∃ z : UU.T .rect, EE.enc .rect z = ns.map (AVal.int .i64) := by
  match ns, h with
  | [a, b, c, d], _ => exact ⟨Rect.mk a b c d, rfl⟩
theorem bend_all (ns : List Int) (h : ns.length = UU.size .bend) : ∃ z : UU.T .bend, EE.enc .bend z = ns.map (AVal.int .i64) := by
  match ns, h with
  | [a, b, c, d, e, f, g, k], _ => exact ⟨Bend.mk a b c d e f g k, rfl⟩
theorem opens_rect {C : Cfg UU} (hP : C.P = Try.prog) (hE : C.E = EE) {H : Type} {enc : TypeId × Value → H} {W : World} : Opens C enc W 30 .rect := by
  obtain ⟨P, E, elt, sum, plain, plainOK, inv, invOK⟩ := C
  obtain rfl : P = Try.prog := hP
  obtain rfl : E = EE := hE
  exact opens_ints 5 (by kernel_rfl) (by kernel_rfl) (by kernel_rfl) (by kernel_rfl) rect_all
theorem opens_bend {C : Cfg UU} (hP : C.P = Try.prog) (hE : C.E = EE) {H : Type} {enc : TypeId × Value → H} {W : World} : Opens C enc W 60 .bend := by
  obtain ⟨P, E, elt, sum, plain, plainOK, inv, invOK⟩ := C
  obtain rfl : P = Try.prog := hP
  obtain rfl : E = EE := hE
  exact opens_ints 5 (by kernel_rfl) (by kernel_rfl) (by kernel_rfl) (by kernel_rfl) bend_all

set_option maxRecDepth 100000 in
/-- A pattern that came in. -/
theorem open_flat {H : Type} {enc : TypeId × Value → H} {W : World} {base : Nat} {v : Value} {x : DataW H} {ps : List MemPlace} (hok : Value.okWide Try.prog W .any base 25 v) (h : DataW.Trod enc Try.prog W 0 (fun _ => true) true 25 v x ps) :
    ∃ (R C M : List Rect) (B : List Bend), Rel EE W noOwn (Out' (fun _ => False) W) (AVal.agg [.sl .rect R, .sl .rect C, .sl .rect M, .sl .bend B] : AVal UU) v := by
  obtain ⟨zs, h1, h2, h3⟩ := open_agg (C := C_base) (d := 5) (t := 25) (fun u hu => by
    have hl : leafTys Try.prog 5 25 = [22, 22, 22, 23] := by kernel_rfl
    have hu' : u ∈ [22, 22, 22, 23] := hl ▸ hu
    have h22 : leafKind C_base.P 22 = true ∧ ∀ e, C_base.P.underlying 22 = some (.slice e) → ∃ τ, C_base.elt e = some τ ∧ Opens C_base enc W e τ := by
      refine ⟨by kernel_rfl, fun e he => ?_⟩
      rw [show C_base.P.underlying 22 = _ from Try.underlying22] at he
      cases he
      exact ⟨.rect, by kernel_rfl, opens_rect (by kernel_rfl) (by kernel_rfl)⟩
    simp only [List.mem_cons, List.not_mem_nil, or_false] at hu'
    rcases hu' with rfl | rfl | rfl | rfl
    · exact h22
    · exact h22
    · exact h22
    · refine ⟨by kernel_rfl, fun e he => ?_⟩
      rw [show C_base.P.underlying 23 = _ from Try.underlying23] at he
      cases he
      exact ⟨.bend, by kernel_rfl, opens_bend (by kernel_rfl) (by kernel_rfl)⟩) (by kernel_rfl) (by kernel_rfl) (by kernel_rfl) hok h
  have hl : leafTys C_base.P 5 25 = [22, 22, 22, 23] := by kernel_rfl
  simp only [hl] at h1 h2
  match zs, h1 with
  | [a0, a1, a2, a3], _ =>
    have f0 := h2 0 (by simp) (by simp)
    have f1 := h2 1 (by simp) (by simp)
    have f2 := h2 2 (by simp) (by simp)
    have f3 := h2 3 (by simp) (by simp)
    simp only [List.getElem_cons_zero, List.getElem_cons_succ, Fits] at f0 f1 f2 f3
    rw [show C_base.P.underlying 22 = _ from Try.underlying22] at f0 f1 f2
    rw [show C_base.P.underlying 23 = _ from Try.underlying23] at f3
    obtain ⟨τ0, R, hτ0, rfl, _⟩ := f0
    obtain ⟨τ1, C, hτ1, rfl, _⟩ := f1
    obtain ⟨τ2, M, hτ2, rfl, _⟩ := f2
    obtain ⟨τ3, B, hτ3, rfl, _⟩ := f3
    have hr : C_base.elt 30 = some .rect := by kernel_rfl
    have hb : C_base.elt 60 = some .bend := by kernel_rfl
    obtain rfl : Knd.rect = τ0 := Option.some.inj (hr.symm.trans hτ0)
    obtain rfl : Knd.rect = τ1 := Option.some.inj (hr.symm.trans hτ1)
    obtain rfl : Knd.rect = τ2 := Option.some.inj (hr.symm.trans hτ2)
    obtain rfl : Knd.bend = τ3 := Option.some.inj (hb.symm.trans hτ3)
    exact ⟨R, C, M, B, h3⟩

end
end Go.Proofs.Ytohecfbnmmgimaa

namespace Go.Proofs.Ytohecfbnmmgimaa
open Go.Vm Go.ChangeShapes Go.WideShapes Go.ChangeAt Go.RowKit Go.Joins
set_option linter.unusedVariables false
noncomputable section
set_option maxRecDepth 100000 in
theorem walk7 {v : Value} {R C M : List Rect} {B : List Bend} {a b : Int} (W : World) (hi : inv0 W) (hr : Rel EE W noOwn (Out' (fun _ => False) W) (AVal.agg [.sl .rect R, .sl .rect C, .sl .rect M, .sl .bend B] : AVal UU) v) :
    Calls Try.prog 7 #[v, .int .i64 a, .int .i64 b] W fun e W' => e = .returned (.bool true) ∧ Below W.heap.size W W' := by
  refine law_callsM (fr := false) (C := C_flat_Surface) (c := bo Try.f7) (M := M_law03_FlatTurnsBack) (fuel := 1001) s_flat_Surface mixed Try.func7 (by kernel_rfl) (xs := [.agg [.sl .rect R, .sl .rect C, .sl .rect M, .sl .bend B], .int .i64 a, .int .i64 b]) hi ⟨rfl, fun k hk => ?_⟩ (by kernel_rfl) ⟨?_⟩
  · match k, hk with
    | 0, _ => exact hr
    | 1, _ => exact .int _ _
    | 2, _ => exact .int _ _
  · rw [exec_law03_FlatTurnsBack]
    refine cast ?_ (law_turns R C M B a b)
    congr 1
    funext r
    simp
set_option maxRecDepth 100000 in
theorem lifted7 (os : Os) (started : os.Started) (H : Type) (enc : TypeId × Value → H) :
    ReturnsInHanded {} Try.checked os 7 .any (Rows.flatTurnsBackSpec.pre6 enc Try.prog Try.f7 Rows.flatTurnsBackRow.domain false) (Rows.flatTurnsBackSpec.post enc Try.prog Try.f7 false true false false) := by
  refine returnsInHanded_of_change_shaped (C := Try.checked) own started (by kernel_rfl) Try.func7
    (ChangeSpec.witness6 (enc := enc) (C := Try.checked) false ⟨#[], #[.agg #[.slice none 0 0, .slice none 0 0, .slice none 0 0, .slice none 0 0], .int .i64 0, .int .i64 0], []⟩ 8 (by kernel_rfl) (by kernel_rfl) (by kernel_rfl) (by kernel_rfl)) ?_
  intro W base args ds gs before hval0 hW _ _ hsh _
  have hval : ∀ (j : Nat) t v, Try.f7.params[j]? = some t → args[j]? = some v → Value.okWide Try.prog W .any base t v := hval0
  have hsh' : W.ShapedOpen Try.prog := hsh
  have hW' := hW
  obtain ⟨p, q, hA0, hV, rfl, _, _⟩ := hW
  have hA : DataW.TrodAll enc Try.prog W 0 (fun _ => true) true Try.f7.params.toList args.toList ds p := hA0
  rw [Try.params7] at hA hval
  obtain ⟨v0, vs0, d0, ds0, p0, q0, hargs, rfl, rfl, h0, r0⟩ := trodAll_cons hA
  obtain ⟨v1, vs1, d1, ds1, p1, q1, rfl, rfl, rfl, h1, r1⟩ := trodAll_cons r0
  obtain ⟨v2, vs2, d2, ds2, p2, q2, rfl, rfl, rfl, h2, r2⟩ := trodAll_cons r1
  obtain ⟨rfl, rfl, rfl⟩ := trodAll_nil r2
  obtain rfl : args = #[v0, v1, v2] := by cases args; simp_all
  obtain ⟨R, C, M, B, hr⟩ := open_flat (hval 0 25 v0 rfl rfl) h0
  obtain ⟨a, rfl, _⟩ := open_int Try.underlying3 (hval 1 3 v1 rfl rfl) h1
  obtain ⟨b, rfl, _⟩ := open_int Try.underlying3 (hval 2 3 v2 rfl rfl) h2
  refine (walk7 W (inv_of hsh') hr).mono fun e W' ⟨he, hb⟩ => ?_
  subst he
  exact ⟨_, rfl, law_post (tb := 4) laidOut (by kernel_rfl) rfl Try.underlying4 rfl rfl hW' hb⟩

theorem turns : Rows.FlatTurnsBackSaid :=
  OpenClaim.holds_of_wide 7 Try.f7 rfl rfl rfl rfl rfl rfl rfl ⟨rfl, rfl, rfl, rfl, rfl⟩ rfl rfl rfl rfl rfl (by kernel_rfl) Try.func7 (by kernel_rfl)
    (of_decide_eq_true (by kernel_rfl)) (by unfold Func.isWrapper; first | (rw [if_pos (by decide +kernel)]; kernel_rfl) | (rw [if_neg (by decide +kernel)]; exact ⟨rfl, rfl⟩))
    (fun os started H enc _ => lifted7 os started H enc)
end
end Go.Proofs.Ytohecfbnmmgimaa
