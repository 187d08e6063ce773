/- Texts of this proof, one behind another: That the code says what the printed pieces say, by the kernel; printed by gen.py. Conditio; That the code says what the printed pieces say, by the kernel; printed by gen.py. Conditio; That the code says what the printed pieces say, by the kernel; printed by gen.py. Conditio. Conditions: none. -/
import Derived.Test.YteffpgliiilnjaaGreatDoorMS5
import Derived.Test.YteffpgliiilnjaaGreatDoorMS6
namespace Go.Proofs.YteffpgliiilnjaaGreatDoor
open Go.Vm Go.RowKit
set_option linter.unusedVariables false
set_option maxRecDepth 100000
noncomputable section
def b_zk_0 (F n r : Nat) (S : ASt UU) (K : AEx → ASt UU → Prop) : Prop := iter (execG (inliner M_zk F 0 C_zs) C_zs Tryz.f12.ntmps M_zk F 0 (cL (cB (cS (cF (cS (cS (bo Tryz.f12)))))))) (M_zk 0 0) n r S K
def k_zk_0 (F : Nat) (Post : AVal UU → Prop) : AEx → ASt UU → Prop := kBlock 0 (kSeq (inliner M_zk F 0 C_zs) C_zs Tryz.f12.ntmps M_zk F 0 (cS (cS (cS (bo Tryz.f12)))) (AEnds C_zs false Tryz.f12 Post))
theorem step_zk_0 (F n r : Nat) (K : AEx → ASt UU → Prop) (t0 t1 : List Rect) (t4 : Bool) (t5 : Int) : b_zk_0 F (n + 1) r (st_zk_0 t0 t1 t4 t5) K = g_zk_s0 (fun t0 t1 t4 t5 => b_zk_0 F n (r + 1) (st_zk_0 t0 t1 t4 t5) K) (fun t0 t1 t4 t5 => K .ret (st_zk_0 t0 t1 t4 t5)) (fun t0 t1 t4 t5 => K (.exit 0) (st_zk_0 t0 t1 t4 t5)) t0 t1 t4 t5 := by kernel_rfl
theorem cont_zk_0_0 (F : Nat) (Post : AVal UU → Prop) (t0 t1 : List Rect) (t4 : Bool) (t5 : Int) : k_zk_0 F Post .ret (st_zk_0 t0 t1 t4 t5) = g_zk_c0_0 (fun r0 => Post (.bool r0)) t0 t1 t4 t5 := by kernel_rfl
theorem cont_zk_0_1 (F : Nat) (Post : AVal UU → Prop) (t0 t1 : List Rect) (t4 : Bool) (t5 : Int) : k_zk_0 F Post (.exit 0) (st_zk_0 t0 t1 t4 t5) = g_zk_c0_1 (fun r0 => Post (.bool r0)) t0 t1 t4 t5 := by kernel_rfl
theorem entry_zk (F : Nat) (Post : AVal UU → Prop) (a0 a1 : List Rect) : exec C_zs Tryz.f12.ntmps M_zk F 0 (bo Tryz.f12) (initSt [.sl .rect a0, .sl .rect a1]) (AEnds C_zs false Tryz.f12 Post) = g_zk_e a0 a1 (fun r0 => Post (.bool r0)) (fun t0 t1 t4 t5 => b_zk_0 F F 0 (st_zk_0 t0 t1 t4 t5) (k_zk_0 F Post)) := by kernel_rfl
theorem loop_zk_0 (F : Nat) (K : AEx → ASt UU → Prop) : ∀ (n r : Nat) (t0 t1 : List Rect) (t4 : Bool) (t5 : Int), b_zk_0 F n r (st_zk_0 t0 t1 t4 t5) K = w_zk_0 F  (fun t0 t1 t4 t5 => K .ret (st_zk_0 t0 t1 t4 t5)) (fun t0 t1 t4 t5 => K (.exit 0) (st_zk_0 t0 t1 t4 t5)) n t0 t1 t4 t5 := by
 intro n
 induction n with
 | zero => intros; rfl
 | succ n ih =>
  intro r t0 t1 t4 t5
  have e : (fun t0 t1 t4 t5 => b_zk_0 F n (r + 1) (st_zk_0 t0 t1 t4 t5) K) = w_zk_0 F  (fun t0 t1 t4 t5 => K .ret (st_zk_0 t0 t1 t4 t5)) (fun t0 t1 t4 t5 => K (.exit 0) (st_zk_0 t0 t1 t4 t5)) n := by
   funext t0 t1 t4 t5
   exact ih (r + 1) t0 t1 t4 t5
  rw [step_zk_0, e]
  rfl
theorem nl_zk_0 (F : Nat) (Post : AVal UU → Prop) (t0 t1 : List Rect) (t4 : Bool) (t5 : Int) : b_zk_0 F F 0 (st_zk_0 t0 t1 t4 t5) (k_zk_0 F Post) = n_zk_0 F (fun r0 => Post (.bool r0)) t0 t1 t4 t5 := by
 rw [loop_zk_0]
 have h0 : (fun t0 t1 t4 t5 => k_zk_0 F Post .ret (st_zk_0 t0 t1 t4 t5)) = (fun t0 t1 t4 t5 => g_zk_c0_0 (fun r0 => Post (.bool r0)) t0 t1 t4 t5) := by
  funext t0 t1 t4 t5
  rw [cont_zk_0_0]
 have h1 : (fun t0 t1 t4 t5 => k_zk_0 F Post (.exit 0) (st_zk_0 t0 t1 t4 t5)) = (fun t0 t1 t4 t5 => g_zk_c0_1 (fun r0 => Post (.bool r0)) t0 t1 t4 t5) := by
  funext t0 t1 t4 t5
  rw [cont_zk_0_1]
 rw [h0, h1]
 rfl
theorem exec_zk (F : Nat) (Post : AVal UU → Prop) (a0 a1 : List Rect) : exec C_zs Tryz.f12.ntmps M_zk F 0 (bo Tryz.f12) (initSt [.sl .rect a0, .sl .rect a1]) (AEnds C_zs false Tryz.f12 Post) = w_zk F a0 a1 (fun r0 => Post (.bool r0)) := by
 rw [entry_zk]
 have e0 : (fun t0 t1 t4 t5 => b_zk_0 F F 0 (st_zk_0 t0 t1 t4 t5) (k_zk_0 F Post)) = (n_zk_0 F (fun r0 => Post (.bool r0))) := by
  funext t0 t1 t4 t5
  exact nl_zk_0 F Post t0 t1 t4 t5
 rw [e0]
 rfl
def m_zk : Model UU
 | [.sl .rect a0, .sl .rect a1] => some ([pre_zk a0 a1], .bool (sp_zk a0 a1))
 | _ => none
def C_zk : Cfg UU := C_zs.add 12 m_zk
theorem s_zk : SumOK C_zk := by
 refine s_zs.addD mixed (fn := Tryz.f12) (c := bo Tryz.f12) Tryz.func12 (by kernel_rfl) (by kernel_rfl) ?_
 intro xs cs r h hc
 unfold m_zk at h
 split at h
 ·rename_i a0 a1
  cases h
  obtain ⟨F, hF⟩ := ok_zk a0 a1 hc
  refine ⟨by kernel_rfl, M_zk, F, false, ⟨?_⟩⟩
  rw [exec_zk]
  refine hF _ ?_
  rfl
 ·cases h
set_option maxRecDepth 100000
def b_zo_0 (F n r : Nat) (S : ASt UU) (K : AEx → ASt UU → Prop) : Prop := iter (execG (inliner M_zo F 0 C_zk) C_zk Tryz.f27.ntmps M_zo F 0 (cL (cB (cS (cF (cS (cS (bo Tryz.f27)))))))) (M_zo 0 0) n r S K
def k_zo_0 (F : Nat) (Post : AVal UU → Prop) : AEx → ASt UU → Prop := kBlock 0 (kSeq (inliner M_zo F 0 C_zk) C_zk Tryz.f27.ntmps M_zo F 0 (cS (cS (cS (bo Tryz.f27)))) (AEnds C_zk false Tryz.f27 Post))
theorem step_zo_0 (F n r : Nat) (K : AEx → ASt UU → Prop) (t0 t1 : List (List Rect)) (t4 : Bool) (t5 : Int) : b_zo_0 F (n + 1) r (st_zo_0 t0 t1 t4 t5) K = g_zo_s0 (fun t0 t1 t4 t5 => b_zo_0 F n (r + 1) (st_zo_0 t0 t1 t4 t5) K) (fun t0 t1 t4 t5 => K .ret (st_zo_0 t0 t1 t4 t5)) (fun t0 t1 t4 t5 => K (.exit 0) (st_zo_0 t0 t1 t4 t5)) t0 t1 t4 t5 := by kernel_rfl
theorem cont_zo_0_0 (F : Nat) (Post : AVal UU → Prop) (t0 t1 : List (List Rect)) (t4 : Bool) (t5 : Int) : k_zo_0 F Post .ret (st_zo_0 t0 t1 t4 t5) = g_zo_c0_0 (fun r0 => Post (.bool r0)) t0 t1 t4 t5 := by kernel_rfl
theorem cont_zo_0_1 (F : Nat) (Post : AVal UU → Prop) (t0 t1 : List (List Rect)) (t4 : Bool) (t5 : Int) : k_zo_0 F Post (.exit 0) (st_zo_0 t0 t1 t4 t5) = g_zo_c0_1 (fun r0 => Post (.bool r0)) t0 t1 t4 t5 := by kernel_rfl
theorem entry_zo (F : Nat) (Post : AVal UU → Prop) (a0 a1 : List (List Rect)) : exec C_zk Tryz.f27.ntmps M_zo F 0 (bo Tryz.f27) (initSt [.sl .rects a0, .sl .rects a1]) (AEnds C_zk false Tryz.f27 Post) = g_zo_e a0 a1 (fun r0 => Post (.bool r0)) (fun t0 t1 t4 t5 => b_zo_0 F F 0 (st_zo_0 t0 t1 t4 t5) (k_zo_0 F Post)) := by kernel_rfl
theorem loop_zo_0 (F : Nat) (K : AEx → ASt UU → Prop) : ∀ (n r : Nat) (t0 t1 : List (List Rect)) (t4 : Bool) (t5 : Int), b_zo_0 F n r (st_zo_0 t0 t1 t4 t5) K = w_zo_0 F  (fun t0 t1 t4 t5 => K .ret (st_zo_0 t0 t1 t4 t5)) (fun t0 t1 t4 t5 => K (.exit 0) (st_zo_0 t0 t1 t4 t5)) n t0 t1 t4 t5 := by
 intro n
 induction n with
 | zero => intros; rfl
 | succ n ih =>
  intro r t0 t1 t4 t5
  have e : (fun t0 t1 t4 t5 => b_zo_0 F n (r + 1) (st_zo_0 t0 t1 t4 t5) K) = w_zo_0 F  (fun t0 t1 t4 t5 => K .ret (st_zo_0 t0 t1 t4 t5)) (fun t0 t1 t4 t5 => K (.exit 0) (st_zo_0 t0 t1 t4 t5)) n := by
   funext t0 t1 t4 t5
   exact ih (r + 1) t0 t1 t4 t5
  rw [step_zo_0, e]
  rfl
theorem nl_zo_0 (F : Nat) (Post : AVal UU → Prop) (t0 t1 : List (List Rect)) (t4 : Bool) (t5 : Int) : b_zo_0 F F 0 (st_zo_0 t0 t1 t4 t5) (k_zo_0 F Post) = n_zo_0 F (fun r0 => Post (.bool r0)) t0 t1 t4 t5 := by
 rw [loop_zo_0]
 have h0 : (fun t0 t1 t4 t5 => k_zo_0 F Post .ret (st_zo_0 t0 t1 t4 t5)) = (fun t0 t1 t4 t5 => g_zo_c0_0 (fun r0 => Post (.bool r0)) t0 t1 t4 t5) := by
  funext t0 t1 t4 t5
  rw [cont_zo_0_0]
 have h1 : (fun t0 t1 t4 t5 => k_zo_0 F Post (.exit 0) (st_zo_0 t0 t1 t4 t5)) = (fun t0 t1 t4 t5 => g_zo_c0_1 (fun r0 => Post (.bool r0)) t0 t1 t4 t5) := by
  funext t0 t1 t4 t5
  rw [cont_zo_0_1]
 rw [h0, h1]
 rfl
theorem exec_zo (F : Nat) (Post : AVal UU → Prop) (a0 a1 : List (List Rect)) : exec C_zk Tryz.f27.ntmps M_zo F 0 (bo Tryz.f27) (initSt [.sl .rects a0, .sl .rects a1]) (AEnds C_zk false Tryz.f27 Post) = w_zo F a0 a1 (fun r0 => Post (.bool r0)) := by
 rw [entry_zo]
 have e0 : (fun t0 t1 t4 t5 => b_zo_0 F F 0 (st_zo_0 t0 t1 t4 t5) (k_zo_0 F Post)) = (n_zo_0 F (fun r0 => Post (.bool r0))) := by
  funext t0 t1 t4 t5
  exact nl_zo_0 F Post t0 t1 t4 t5
 rw [e0]
 rfl
def m_zo : Model UU
 | [.sl .rects a0, .sl .rects a1] => some ([pre_zo a0 a1], .bool (sp_zo a0 a1))
 | _ => none
def C_zo : Cfg UU := C_zk.add 27 m_zo
theorem s_zo : SumOK C_zo := by
 refine s_zk.addD mixed (fn := Tryz.f27) (c := bo Tryz.f27) Tryz.func27 (by kernel_rfl) (by kernel_rfl) ?_
 intro xs cs r h hc
 unfold m_zo at h
 split at h
 ·rename_i a0 a1
  cases h
  obtain ⟨F, hF⟩ := ok_zo a0 a1 hc
  refine ⟨by kernel_rfl, M_zo, F, false, ⟨?_⟩⟩
  rw [exec_zo]
  refine hF _ ?_
  rfl
 ·cases h
set_option maxRecDepth 100000
theorem entry_za (F : Nat) (Post : AVal UU → Prop) (qe qf : ByteArray) (qg qh qa qb : Int) (qc qd : List Rect) (a1 : List Seg) : exec C_zo Tryz.f7.ntmps M_za F 0 (bo Tryz.f7) (initSt [.agg [.str qe, .str qf, .int .i64 qg, .int .i64 qh, .int .i64 qa, .int .i64 qb, .sl .rect qc, .sl .rect qd], .sl .seg a1]) (AEnds C_zo false Tryz.f7 Post) = g_za_e qe qf qg qh qa qb qc qd a1 (fun r0 => Post (.bool r0)) := by kernel_rfl
theorem exec_za (F : Nat) (Post : AVal UU → Prop) (qe qf : ByteArray) (qg qh qa qb : Int) (qc qd : List Rect) (a1 : List Seg) : exec C_zo Tryz.f7.ntmps M_za F 0 (bo Tryz.f7) (initSt [.agg [.str qe, .str qf, .int .i64 qg, .int .i64 qh, .int .i64 qa, .int .i64 qb, .sl .rect qc, .sl .rect qd], .sl .seg a1]) (AEnds C_zo false Tryz.f7 Post) = w_za F qe qf qg qh qa qb qc qd a1 (fun r0 => Post (.bool r0)) := by
 rw [entry_za]
 rfl
end
end Go.Proofs.YteffpgliiilnjaaGreatDoor
