/- Texts of this proof, one behind another: That the code says what the printed pieces say, by the kernel; printed by gen.py. Conditio; That the code says what the printed pieces say, by the kernel; printed by gen.py. Conditio; That the code says what the printed pieces say, by the kernel; printed by gen.py. Conditio; That the code says what the printed pieces say, by the kernel; printed by gen.py. Conditio; That the code says what the printed pieces say, by the kernel; printed by gen.py. Conditio; That the code says what the printed pieces say, by the kernel; printed by gen.py. Conditio; That the code says what the printed pieces say, by the kernel; printed by gen.py. Conditio; DERIVED: THE SHELF's CONTRACTS AT THIS DUMP, IN PLAIN WORDS (tools/lay-plain.mjs out of 'T; A summary by hand: slices.Grow of the nil slice. Conditions: none.; That the code says what the printed pieces say, by the kernel; printed by gen.py. Conditio; That the code says what the printed pieces say, by the kernel; printed by gen.py. Conditio; That the code says what the printed pieces say, by the kernel; printed by gen.py. Conditio. Conditions: none. -/
import Derived.Test.YteffpgliiilnjaaGreatDoorMF5
import Derived.Test.YteffpgliiilnjaaGreatDoorMF6
import Derived.Shelf.Spec.SlicesGrow
import Derived.Test.YteffpgliiilnjaaGreatDoorProg
namespace Go.Proofs.YteffpgliiilnjaaGreatDoor
open Go.Vm Go.RowKit
set_option linter.unusedVariables false
set_option maxRecDepth 100000
noncomputable section
theorem entry_zas (F : Nat) (Post : AVal UU → Prop) (a0 a1 a2 : Int) : exec C_zbb Tryz.f247.ntmps M_zas F 0 (bo Tryz.f247) (initSt [.int .i64 a0, .int .i64 a1, .int .i64 a2]) (AEnds C_zbb false Tryz.f247 Post) = g_zas_e a0 a1 a2 (fun r0 => Post (.bool r0)) := by kernel_rfl
theorem exec_zas (F : Nat) (Post : AVal UU → Prop) (a0 a1 a2 : Int) : exec C_zbb Tryz.f247.ntmps M_zas F 0 (bo Tryz.f247) (initSt [.int .i64 a0, .int .i64 a1, .int .i64 a2]) (AEnds C_zbb false Tryz.f247 Post) = w_zas F a0 a1 a2 (fun r0 => Post (.bool r0)) := by
  rw [entry_zas]
  rfl
def m_zas : Model UU
  | [.int .i64 a0, .int .i64 a1, .int .i64 a2] => some ([], .bool (sp_zas a0 a1 a2))
  | _ => none
def C_zas : Cfg UU := C_zbb.add 247 m_zas
theorem s_zas : SumOK C_zas := by
  refine s_zbb.addD mixed (fn := Tryz.f247) (c := bo Tryz.f247) Tryz.func247 (by kernel_rfl) (by kernel_rfl) ?_
  intro xs cs r h hc
  unfold m_zas at h
  split at h
  · rename_i a0 a1 a2
    cases h
    obtain ⟨F, hF⟩ := ok_zas a0 a1 a2
    refine ⟨by kernel_rfl, M_zas, F, false, ⟨?_⟩⟩
    rw [exec_zas]
    refine hF _ ?_
    rfl
  · cases h
theorem entry_zp (F : Nat) (Post : AVal UU → Prop) (a0_X a0_Y a0_W a0_H : Int) : exec C_zas Tryz.f237.ntmps M_zp F 0 (bo Tryz.f237) (initSt [.agg [.int .i64 a0_X, .int .i64 a0_Y, .int .i64 a0_W, .int .i64 a0_H]]) (AEnds C_zas false Tryz.f237 Post) = g_zp_e a0_X a0_Y a0_W a0_H (fun r0 => Post (.bool r0)) := by kernel_rfl
theorem exec_zp (F : Nat) (Post : AVal UU → Prop) (a0_X a0_Y a0_W a0_H : Int) : exec C_zas Tryz.f237.ntmps M_zp F 0 (bo Tryz.f237) (initSt [.agg [.int .i64 a0_X, .int .i64 a0_Y, .int .i64 a0_W, .int .i64 a0_H]]) (AEnds C_zas false Tryz.f237 Post) = w_zp F a0_X a0_Y a0_W a0_H (fun r0 => Post (.bool r0)) := by
  rw [entry_zp]
  rfl
def m_zp : Model UU
  | [.agg [.int .i64 a0_X, .int .i64 a0_Y, .int .i64 a0_W, .int .i64 a0_H]] => some ([], .bool (sp_zp a0_X a0_Y a0_W a0_H))
  | _ => none
def C_zp : Cfg UU := C_zas.add 237 m_zp
theorem s_zp : SumOK C_zp := by
  refine s_zas.addD mixed (fn := Tryz.f237) (c := bo Tryz.f237) Tryz.func237 (by kernel_rfl) (by kernel_rfl) ?_
  intro xs cs r h hc
  unfold m_zp at h
  split at h
  · rename_i a0_X a0_Y a0_W a0_H
    cases h
    obtain ⟨F, hF⟩ := ok_zp a0_X a0_Y a0_W a0_H
    refine ⟨by kernel_rfl, M_zp, F, false, ⟨?_⟩⟩
    rw [exec_zp]
    refine hF _ ?_
    rfl
  · cases h
theorem entry_zar (F : Nat) (Post : AVal UU → Prop) (a0 a1 a2 : Int) : exec C_zp Tryz.f214.ntmps M_zar F 0 (bo Tryz.f214) (initSt [.int .i64 a0, .int .i64 a1, .int .i64 a2]) (AEnds C_zp false Tryz.f214 Post) = g_zar_e a0 a1 a2 (fun r0 => Post (.bool r0)) := by kernel_rfl
theorem exec_zar (F : Nat) (Post : AVal UU → Prop) (a0 a1 a2 : Int) : exec C_zp Tryz.f214.ntmps M_zar F 0 (bo Tryz.f214) (initSt [.int .i64 a0, .int .i64 a1, .int .i64 a2]) (AEnds C_zp false Tryz.f214 Post) = w_zar F a0 a1 a2 (fun r0 => Post (.bool r0)) := by
  rw [entry_zar]
  rfl
def m_zar : Model UU
  | [.int .i64 a0, .int .i64 a1, .int .i64 a2] => some ([], .bool (sp_zar a0 a1 a2))
  | _ => none
def C_zar : Cfg UU := C_zp.add 214 m_zar
theorem s_zar : SumOK C_zar := by
  refine s_zp.addD mixed (fn := Tryz.f214) (c := bo Tryz.f214) Tryz.func214 (by kernel_rfl) (by kernel_rfl) ?_
  intro xs cs r h hc
  unfold m_zar at h
  split at h
  · rename_i a0 a1 a2
    cases h
    obtain ⟨F, hF⟩ := ok_zar a0 a1 a2
    refine ⟨by kernel_rfl, M_zar, F, false, ⟨?_⟩⟩
    rw [exec_zar]
    refine hF _ ?_
    rfl
  · cases h
theorem entry_zal (F : Nat) (Post : AVal UU → Prop) (qf qe qh qg : Int) : exec C_zar Tryz.f191.ntmps M_zal F 0 (bo Tryz.f191) (initSt [.agg [.int .i64 qf, .int .i64 qe, .int .i64 qh, .int .i64 qg]]) (AEnds C_zar false Tryz.f191 Post) = g_zal_e qf qe qh qg (fun r0 => Post (.bool r0)) := by kernel_rfl
theorem exec_zal (F : Nat) (Post : AVal UU → Prop) (qf qe qh qg : Int) : exec C_zar Tryz.f191.ntmps M_zal F 0 (bo Tryz.f191) (initSt [.agg [.int .i64 qf, .int .i64 qe, .int .i64 qh, .int .i64 qg]]) (AEnds C_zar false Tryz.f191 Post) = w_zal F qf qe qh qg (fun r0 => Post (.bool r0)) := by
  rw [entry_zal]
  rfl
def m_zal : Model UU
  | [.agg [.int .i64 qf, .int .i64 qe, .int .i64 qh, .int .i64 qg]] => some ([], .bool (sp_zal qf qe qh qg))
  | _ => none
def C_zal : Cfg UU := C_zar.add 191 m_zal
theorem s_zal : SumOK C_zal := by
  refine s_zar.addD mixed (fn := Tryz.f191) (c := bo Tryz.f191) Tryz.func191 (by kernel_rfl) (by kernel_rfl) ?_
  intro xs cs r h hc
  unfold m_zal at h
  split at h
  · rename_i qf qe qh qg
    cases h
    obtain ⟨F, hF⟩ := ok_zal qf qe qh qg
    refine ⟨by kernel_rfl, M_zal, F, false, ⟨?_⟩⟩
    rw [exec_zal]
    refine hF _ ?_
    rfl
  · cases h
theorem entry_zam (F : Nat) (Post : AVal UU → Prop) (a0_X a0_Y a0_Z a1_X a1_Y a1_Z : Int) : exec C_zal Tryz.f156.ntmps M_zam F 0 (bo Tryz.f156) (initSt [.agg [.int .i64 a0_X, .int .i64 a0_Y, .int .i64 a0_Z], .agg [.int .i64 a1_X, .int .i64 a1_Y, .int .i64 a1_Z]]) (AEnds C_zal false Tryz.f156 Post) = g_zam_e a0_X a0_Y a0_Z a1_X a1_Y a1_Z (fun r0_X r0_Y r0_Z => Post (.agg [.int .i64 r0_X, .int .i64 r0_Y, .int .i64 r0_Z])) := by kernel_rfl
theorem exec_zam (F : Nat) (Post : AVal UU → Prop) (a0_X a0_Y a0_Z a1_X a1_Y a1_Z : Int) : exec C_zal Tryz.f156.ntmps M_zam F 0 (bo Tryz.f156) (initSt [.agg [.int .i64 a0_X, .int .i64 a0_Y, .int .i64 a0_Z], .agg [.int .i64 a1_X, .int .i64 a1_Y, .int .i64 a1_Z]]) (AEnds C_zal false Tryz.f156 Post) = w_zam F a0_X a0_Y a0_Z a1_X a1_Y a1_Z (fun r0_X r0_Y r0_Z => Post (.agg [.int .i64 r0_X, .int .i64 r0_Y, .int .i64 r0_Z])) := by
  rw [entry_zam]
  rfl
def m_zam : Model UU
  | [.agg [.int .i64 a0_X, .int .i64 a0_Y, .int .i64 a0_Z], .agg [.int .i64 a1_X, .int .i64 a1_Y, .int .i64 a1_Z]] => some ([], .agg [.int .i64 ((sp_zam a0_X a0_Y a0_Z a1_X a1_Y a1_Z).1), .int .i64 ((sp_zam a0_X a0_Y a0_Z a1_X a1_Y a1_Z).2.1), .int .i64 ((sp_zam a0_X a0_Y a0_Z a1_X a1_Y a1_Z).2.2)])
  | _ => none
def C_zam : Cfg UU := C_zal.add 156 m_zam
theorem s_zam : SumOK C_zam := by
  refine s_zal.addD mixed (fn := Tryz.f156) (c := bo Tryz.f156) Tryz.func156 (by kernel_rfl) (by kernel_rfl) ?_
  intro xs cs r h hc
  unfold m_zam at h
  split at h
  · rename_i a0_X a0_Y a0_Z a1_X a1_Y a1_Z
    cases h
    obtain ⟨F, hF⟩ := ok_zam a0_X a0_Y a0_Z a1_X a1_Y a1_Z
    refine ⟨by kernel_rfl, M_zam, F, false, ⟨?_⟩⟩
    rw [exec_zam]
    refine hF _ ?_
    rfl
  · cases h
theorem entry_zad (F : Nat) (Post : AVal UU → Prop) (a0_X a0_Y a0_Z a1 : Int) : exec C_zam Tryz.f149.ntmps M_zad F 0 (bo Tryz.f149) (initSt [.agg [.int .i64 a0_X, .int .i64 a0_Y, .int .i64 a0_Z], .int .i64 a1]) (AEnds C_zam false Tryz.f149 Post) = g_zad_e a0_X a0_Y a0_Z a1 (fun r0_X r0_Y r0_Z => Post (.agg [.int .i64 r0_X, .int .i64 r0_Y, .int .i64 r0_Z])) := by kernel_rfl
theorem exec_zad (F : Nat) (Post : AVal UU → Prop) (a0_X a0_Y a0_Z a1 : Int) : exec C_zam Tryz.f149.ntmps M_zad F 0 (bo Tryz.f149) (initSt [.agg [.int .i64 a0_X, .int .i64 a0_Y, .int .i64 a0_Z], .int .i64 a1]) (AEnds C_zam false Tryz.f149 Post) = w_zad F a0_X a0_Y a0_Z a1 (fun r0_X r0_Y r0_Z => Post (.agg [.int .i64 r0_X, .int .i64 r0_Y, .int .i64 r0_Z])) := by
  rw [entry_zad]
  rfl
def m_zad : Model UU
  | [.agg [.int .i64 a0_X, .int .i64 a0_Y, .int .i64 a0_Z], .int .i64 a1] => some ([], .agg [.int .i64 ((sp_zad a0_X a0_Y a0_Z a1).1), .int .i64 ((sp_zad a0_X a0_Y a0_Z a1).2.1), .int .i64 ((sp_zad a0_X a0_Y a0_Z a1).2.2)])
  | _ => none
def C_zad : Cfg UU := C_zam.add 149 m_zad
theorem s_zad : SumOK C_zad := by
  refine s_zam.addD mixed (fn := Tryz.f149) (c := bo Tryz.f149) Tryz.func149 (by kernel_rfl) (by kernel_rfl) ?_
  intro xs cs r h hc
  unfold m_zad at h
  split at h
  · rename_i a0_X a0_Y a0_Z a1
    cases h
    obtain ⟨F, hF⟩ := ok_zad a0_X a0_Y a0_Z a1
    refine ⟨by kernel_rfl, M_zad, F, false, ⟨?_⟩⟩
    rw [exec_zad]
    refine hF _ ?_
    rfl
  · cases h
theorem entry_zd (F : Nat) (Post : AVal UU → Prop) (y0 y1 y2 y3 y4 y5 y6 y7 y8 y9 y10 y11 y12 y13 y14 y15 y16 y17 a1_X a1_Y : Int) : exec C_zad Tryz.f109.ntmps M_zd F 0 (bo Tryz.f109) (initSt [.agg [.int .i64 y0, .int .i64 y1, .int .i64 y2, .int .i64 y3, .int .i64 y4, .int .i64 y5, .int .i64 y6, .int .i64 y7, .int .i64 y8, .int .i64 y9, .int .i64 y10, .int .i64 y11, .int .i64 y12, .int .i64 y13, .int .i64 y14, .int .i64 y15, .int .i64 y16, .int .i64 y17], .agg [.int .i64 a1_X, .int .i64 a1_Y]]) (AEnds C_zad false Tryz.f109 Post) = g_zd_e y0 y1 y2 y3 y4 y5 y6 y7 y8 y9 y10 y11 y12 y13 y14 y15 y16 y17 a1_X a1_Y (fun r0 r1 => Post (.tup [.int .i64 r0, .int .i64 r1])) := by kernel_rfl
theorem exec_zd (F : Nat) (Post : AVal UU → Prop) (y0 y1 y2 y3 y4 y5 y6 y7 y8 y9 y10 y11 y12 y13 y14 y15 y16 y17 a1_X a1_Y : Int) : exec C_zad Tryz.f109.ntmps M_zd F 0 (bo Tryz.f109) (initSt [.agg [.int .i64 y0, .int .i64 y1, .int .i64 y2, .int .i64 y3, .int .i64 y4, .int .i64 y5, .int .i64 y6, .int .i64 y7, .int .i64 y8, .int .i64 y9, .int .i64 y10, .int .i64 y11, .int .i64 y12, .int .i64 y13, .int .i64 y14, .int .i64 y15, .int .i64 y16, .int .i64 y17], .agg [.int .i64 a1_X, .int .i64 a1_Y]]) (AEnds C_zad false Tryz.f109 Post) = w_zd F y0 y1 y2 y3 y4 y5 y6 y7 y8 y9 y10 y11 y12 y13 y14 y15 y16 y17 a1_X a1_Y (fun r0 r1 => Post (.tup [.int .i64 r0, .int .i64 r1])) := by
  rw [entry_zd]
  rfl
def m_zd : Model UU
  | [.agg [.int .i64 y0, .int .i64 y1, .int .i64 y2, .int .i64 y3, .int .i64 y4, .int .i64 y5, .int .i64 y6, .int .i64 y7, .int .i64 y8, .int .i64 y9, .int .i64 y10, .int .i64 y11, .int .i64 y12, .int .i64 y13, .int .i64 y14, .int .i64 y15, .int .i64 y16, .int .i64 y17], .agg [.int .i64 a1_X, .int .i64 a1_Y]] => some ([], .tup [.int .i64 ((sp_zd y0 y1 y2 y3 y4 y5 y6 y7 y8 y9 y10 y11 y12 y13 y14 y15 y16 y17 a1_X a1_Y).1), .int .i64 ((sp_zd y0 y1 y2 y3 y4 y5 y6 y7 y8 y9 y10 y11 y12 y13 y14 y15 y16 y17 a1_X a1_Y).2)])
  | _ => none
def C_zd : Cfg UU := C_zad.add 109 m_zd
theorem s_zd : SumOK C_zd := by
  refine s_zad.addD mixed (fn := Tryz.f109) (c := bo Tryz.f109) Tryz.func109 (by kernel_rfl) (by kernel_rfl) ?_
  intro xs cs r h hc
  unfold m_zd at h
  split at h
  · rename_i y0 y1 y2 y3 y4 y5 y6 y7 y8 y9 y10 y11 y12 y13 y14 y15 y16 y17 a1_X a1_Y
    cases h
    obtain ⟨F, hF⟩ := ok_zd y0 y1 y2 y3 y4 y5 y6 y7 y8 y9 y10 y11 y12 y13 y14 y15 y16 y17 a1_X a1_Y
    refine ⟨by kernel_rfl, M_zd, F, false, ⟨?_⟩⟩
    rw [exec_zd]
    refine hF _ ?_
    rfl
  · cases h
theorem entry_zb (F : Nat) (Post : AVal UU → Prop) (y0 y1 y2 y3 y4 y5 y6 y7 y8 y9 y10 y11 y12 y13 y14 y15 y16 y17 a1_X a1_Y : Int) : exec C_zd Tryz.f147.ntmps M_zb F 0 (bo Tryz.f147) (initSt [.agg [.int .i64 y0, .int .i64 y1, .int .i64 y2, .int .i64 y3, .int .i64 y4, .int .i64 y5, .int .i64 y6, .int .i64 y7, .int .i64 y8, .int .i64 y9, .int .i64 y10, .int .i64 y11, .int .i64 y12, .int .i64 y13, .int .i64 y14, .int .i64 y15, .int .i64 y16, .int .i64 y17], .agg [.int .i64 a1_X, .int .i64 a1_Y]]) (AEnds C_zd false Tryz.f147 Post) = g_zb_e y0 y1 y2 y3 y4 y5 y6 y7 y8 y9 y10 y11 y12 y13 y14 y15 y16 y17 a1_X a1_Y (fun r0_X r0_Y r0_Z => Post (.agg [.int .i64 r0_X, .int .i64 r0_Y, .int .i64 r0_Z])) := by kernel_rfl
theorem exec_zb (F : Nat) (Post : AVal UU → Prop) (y0 y1 y2 y3 y4 y5 y6 y7 y8 y9 y10 y11 y12 y13 y14 y15 y16 y17 a1_X a1_Y : Int) : exec C_zd Tryz.f147.ntmps M_zb F 0 (bo Tryz.f147) (initSt [.agg [.int .i64 y0, .int .i64 y1, .int .i64 y2, .int .i64 y3, .int .i64 y4, .int .i64 y5, .int .i64 y6, .int .i64 y7, .int .i64 y8, .int .i64 y9, .int .i64 y10, .int .i64 y11, .int .i64 y12, .int .i64 y13, .int .i64 y14, .int .i64 y15, .int .i64 y16, .int .i64 y17], .agg [.int .i64 a1_X, .int .i64 a1_Y]]) (AEnds C_zd false Tryz.f147 Post) = w_zb F y0 y1 y2 y3 y4 y5 y6 y7 y8 y9 y10 y11 y12 y13 y14 y15 y16 y17 a1_X a1_Y (fun r0_X r0_Y r0_Z => Post (.agg [.int .i64 r0_X, .int .i64 r0_Y, .int .i64 r0_Z])) := by
  rw [entry_zb]
  rfl
def m_zb : Model UU
  | [.agg [.int .i64 y0, .int .i64 y1, .int .i64 y2, .int .i64 y3, .int .i64 y4, .int .i64 y5, .int .i64 y6, .int .i64 y7, .int .i64 y8, .int .i64 y9, .int .i64 y10, .int .i64 y11, .int .i64 y12, .int .i64 y13, .int .i64 y14, .int .i64 y15, .int .i64 y16, .int .i64 y17], .agg [.int .i64 a1_X, .int .i64 a1_Y]] => some ([], .agg [.int .i64 ((sp_zb y0 y1 y2 y3 y4 y5 y6 y7 y8 y9 y10 y11 y12 y13 y14 y15 y16 y17 a1_X a1_Y).1), .int .i64 ((sp_zb y0 y1 y2 y3 y4 y5 y6 y7 y8 y9 y10 y11 y12 y13 y14 y15 y16 y17 a1_X a1_Y).2.1), .int .i64 ((sp_zb y0 y1 y2 y3 y4 y5 y6 y7 y8 y9 y10 y11 y12 y13 y14 y15 y16 y17 a1_X a1_Y).2.2)])
  | _ => none
def C_zb : Cfg UU := C_zd.add 147 m_zb
theorem s_zb : SumOK C_zb := by
  refine s_zd.addD mixed (fn := Tryz.f147) (c := bo Tryz.f147) Tryz.func147 (by kernel_rfl) (by kernel_rfl) ?_
  intro xs cs r h hc
  unfold m_zb at h
  split at h
  · rename_i y0 y1 y2 y3 y4 y5 y6 y7 y8 y9 y10 y11 y12 y13 y14 y15 y16 y17 a1_X a1_Y
    cases h
    obtain ⟨F, hF⟩ := ok_zb y0 y1 y2 y3 y4 y5 y6 y7 y8 y9 y10 y11 y12 y13 y14 y15 y16 y17 a1_X a1_Y
    refine ⟨by kernel_rfl, M_zb, F, false, ⟨?_⟩⟩
    rw [exec_zb]
    refine hF _ ?_
    rfl
  · cases h
theorem entry_zc (F : Nat) (Post : AVal UU → Prop) (y0 y1 y2 y3 y4 y5 y6 y7 y8 y9 y10 y11 y12 y13 y14 y15 y16 y17 a1 a2 : Int) : exec C_zb Tryz.f110.ntmps M_zc F 0 (bo Tryz.f110) (initSt [.agg [.int .i64 y0, .int .i64 y1, .int .i64 y2, .int .i64 y3, .int .i64 y4, .int .i64 y5, .int .i64 y6, .int .i64 y7, .int .i64 y8, .int .i64 y9, .int .i64 y10, .int .i64 y11, .int .i64 y12, .int .i64 y13, .int .i64 y14, .int .i64 y15, .int .i64 y16, .int .i64 y17], .int .i64 a1, .int .i64 a2]) (AEnds C_zb false Tryz.f110 Post) = g_zc_e y0 y1 y2 y3 y4 y5 y6 y7 y8 y9 y10 y11 y12 y13 y14 y15 y16 y17 a1 a2 (fun r0_X r0_Y r0_Z => Post (.agg [.int .i64 r0_X, .int .i64 r0_Y, .int .i64 r0_Z])) := by kernel_rfl
theorem exec_zc (F : Nat) (Post : AVal UU → Prop) (y0 y1 y2 y3 y4 y5 y6 y7 y8 y9 y10 y11 y12 y13 y14 y15 y16 y17 a1 a2 : Int) : exec C_zb Tryz.f110.ntmps M_zc F 0 (bo Tryz.f110) (initSt [.agg [.int .i64 y0, .int .i64 y1, .int .i64 y2, .int .i64 y3, .int .i64 y4, .int .i64 y5, .int .i64 y6, .int .i64 y7, .int .i64 y8, .int .i64 y9, .int .i64 y10, .int .i64 y11, .int .i64 y12, .int .i64 y13, .int .i64 y14, .int .i64 y15, .int .i64 y16, .int .i64 y17], .int .i64 a1, .int .i64 a2]) (AEnds C_zb false Tryz.f110 Post) = w_zc F y0 y1 y2 y3 y4 y5 y6 y7 y8 y9 y10 y11 y12 y13 y14 y15 y16 y17 a1 a2 (fun r0_X r0_Y r0_Z => Post (.agg [.int .i64 r0_X, .int .i64 r0_Y, .int .i64 r0_Z])) := by
  rw [entry_zc]
  rfl
def m_zc : Model UU
  | [.agg [.int .i64 y0, .int .i64 y1, .int .i64 y2, .int .i64 y3, .int .i64 y4, .int .i64 y5, .int .i64 y6, .int .i64 y7, .int .i64 y8, .int .i64 y9, .int .i64 y10, .int .i64 y11, .int .i64 y12, .int .i64 y13, .int .i64 y14, .int .i64 y15, .int .i64 y16, .int .i64 y17], .int .i64 a1, .int .i64 a2] => some ([], .agg [.int .i64 ((sp_zc y0 y1 y2 y3 y4 y5 y6 y7 y8 y9 y10 y11 y12 y13 y14 y15 y16 y17 a1 a2).1), .int .i64 ((sp_zc y0 y1 y2 y3 y4 y5 y6 y7 y8 y9 y10 y11 y12 y13 y14 y15 y16 y17 a1 a2).2.1), .int .i64 ((sp_zc y0 y1 y2 y3 y4 y5 y6 y7 y8 y9 y10 y11 y12 y13 y14 y15 y16 y17 a1 a2).2.2)])
  | _ => none
def C_zc : Cfg UU := C_zb.add 110 m_zc
theorem s_zc : SumOK C_zc := by
  refine s_zb.addD mixed (fn := Tryz.f110) (c := bo Tryz.f110) Tryz.func110 (by kernel_rfl) (by kernel_rfl) ?_
  intro xs cs r h hc
  unfold m_zc at h
  split at h
  · rename_i y0 y1 y2 y3 y4 y5 y6 y7 y8 y9 y10 y11 y12 y13 y14 y15 y16 y17 a1 a2
    cases h
    obtain ⟨F, hF⟩ := ok_zc y0 y1 y2 y3 y4 y5 y6 y7 y8 y9 y10 y11 y12 y13 y14 y15 y16 y17 a1 a2
    refine ⟨by kernel_rfl, M_zc, F, false, ⟨?_⟩⟩
    rw [exec_zc]
    refine hF _ ?_
    rfl
  · cases h
theorem entry_zq (F : Nat) (Post : AVal UU → Prop) (a0_X a0_Y a0_W a0_H qj qi qq qp : Int) : exec C_zc Tryz.f98.ntmps M_zq F 0 (bo Tryz.f98) (initSt [.agg [.int .i64 a0_X, .int .i64 a0_Y, .int .i64 a0_W, .int .i64 a0_H], .agg [.int .i64 qj, .int .i64 qi, .int .i64 qq, .int .i64 qp]]) (AEnds C_zc false Tryz.f98 Post) = g_zq_e a0_X a0_Y a0_W a0_H qj qi qq qp (fun r0_X r0_Y r1 => Post (.tup [.agg [.int .i64 r0_X, .int .i64 r0_Y], .bool r1])) := by kernel_rfl
theorem exec_zq (F : Nat) (Post : AVal UU → Prop) (a0_X a0_Y a0_W a0_H qj qi qq qp : Int) : exec C_zc Tryz.f98.ntmps M_zq F 0 (bo Tryz.f98) (initSt [.agg [.int .i64 a0_X, .int .i64 a0_Y, .int .i64 a0_W, .int .i64 a0_H], .agg [.int .i64 qj, .int .i64 qi, .int .i64 qq, .int .i64 qp]]) (AEnds C_zc false Tryz.f98 Post) = w_zq F a0_X a0_Y a0_W a0_H qj qi qq qp (fun r0_X r0_Y r1 => Post (.tup [.agg [.int .i64 r0_X, .int .i64 r0_Y], .bool r1])) := by
  rw [entry_zq]
  rfl
def m_zq : Model UU
  | [.agg [.int .i64 a0_X, .int .i64 a0_Y, .int .i64 a0_W, .int .i64 a0_H], .agg [.int .i64 qj, .int .i64 qi, .int .i64 qq, .int .i64 qp]] => some ([], .tup [.agg [.int .i64 ((sp_zq a0_X a0_Y a0_W a0_H qj qi qq qp).1), .int .i64 ((sp_zq a0_X a0_Y a0_W a0_H qj qi qq qp).2.1)], .bool ((sp_zq a0_X a0_Y a0_W a0_H qj qi qq qp).2.2)])
  | _ => none
def C_zq : Cfg UU := C_zc.add 98 m_zq
theorem s_zq : SumOK C_zq := by
  refine s_zc.addD mixed (fn := Tryz.f98) (c := bo Tryz.f98) Tryz.func98 (by kernel_rfl) (by kernel_rfl) ?_
  intro xs cs r h hc
  unfold m_zq at h
  split at h
  · rename_i a0_X a0_Y a0_W a0_H qj qi qq qp
    cases h
    obtain ⟨F, hF⟩ := ok_zq a0_X a0_Y a0_W a0_H qj qi qq qp
    refine ⟨by kernel_rfl, M_zq, F, false, ⟨?_⟩⟩
    rw [exec_zq]
    refine hF _ ?_
    rfl
  · cases h
theorem entry_zz (F : Nat) (Post : AVal UU → Prop) (a0_X a0_Y a0_W a0_H qj qi qq qp a2_X a2_Y : Int) : exec C_zq Tryz.f99.ntmps M_zz F 0 (bo Tryz.f99) (initSt [.agg [.int .i64 a0_X, .int .i64 a0_Y, .int .i64 a0_W, .int .i64 a0_H], .agg [.int .i64 qj, .int .i64 qi, .int .i64 qq, .int .i64 qp], .agg [.int .i64 a2_X, .int .i64 a2_Y]]) (AEnds C_zq false Tryz.f99 Post) = g_zz_e a0_X a0_Y a0_W a0_H qj qi qq qp a2_X a2_Y (fun r0 => Post (.bool r0)) := by kernel_rfl
theorem exec_zz (F : Nat) (Post : AVal UU → Prop) (a0_X a0_Y a0_W a0_H qj qi qq qp a2_X a2_Y : Int) : exec C_zq Tryz.f99.ntmps M_zz F 0 (bo Tryz.f99) (initSt [.agg [.int .i64 a0_X, .int .i64 a0_Y, .int .i64 a0_W, .int .i64 a0_H], .agg [.int .i64 qj, .int .i64 qi, .int .i64 qq, .int .i64 qp], .agg [.int .i64 a2_X, .int .i64 a2_Y]]) (AEnds C_zq false Tryz.f99 Post) = w_zz F a0_X a0_Y a0_W a0_H qj qi qq qp a2_X a2_Y (fun r0 => Post (.bool r0)) := by
  rw [entry_zz]
  rfl
def m_zz : Model UU
  | [.agg [.int .i64 a0_X, .int .i64 a0_Y, .int .i64 a0_W, .int .i64 a0_H], .agg [.int .i64 qj, .int .i64 qi, .int .i64 qq, .int .i64 qp], .agg [.int .i64 a2_X, .int .i64 a2_Y]] => some ([], .bool (sp_zz a0_X a0_Y a0_W a0_H qj qi qq qp a2_X a2_Y))
  | _ => none
def C_zz : Cfg UU := C_zq.add 99 m_zz
theorem s_zz : SumOK C_zz := by
  refine s_zq.addD mixed (fn := Tryz.f99) (c := bo Tryz.f99) Tryz.func99 (by kernel_rfl) (by kernel_rfl) ?_
  intro xs cs r h hc
  unfold m_zz at h
  split at h
  · rename_i a0_X a0_Y a0_W a0_H qj qi qq qp a2_X a2_Y
    cases h
    obtain ⟨F, hF⟩ := ok_zz a0_X a0_Y a0_W a0_H qj qi qq qp a2_X a2_Y
    refine ⟨by kernel_rfl, M_zz, F, false, ⟨?_⟩⟩
    rw [exec_zz]
    refine hF _ ?_
    rfl
  · cases h
theorem entry_zbm (F : Nat) (Post : AVal UU → Prop) (a0_X a0_Y a0_Z a1_X a1_Y a1_Z : Int) : exec C_zz Tryz.f189.ntmps M_zbm F 0 (bo Tryz.f189) (initSt [.agg [.int .i64 a0_X, .int .i64 a0_Y, .int .i64 a0_Z], .agg [.int .i64 a1_X, .int .i64 a1_Y, .int .i64 a1_Z]]) (AEnds C_zz false Tryz.f189 Post) = g_zbm_e a0_X a0_Y a0_Z a1_X a1_Y a1_Z (fun r0_X r0_Y r0_Z => Post (.agg [.int .i64 r0_X, .int .i64 r0_Y, .int .i64 r0_Z])) := by kernel_rfl
theorem exec_zbm (F : Nat) (Post : AVal UU → Prop) (a0_X a0_Y a0_Z a1_X a1_Y a1_Z : Int) : exec C_zz Tryz.f189.ntmps M_zbm F 0 (bo Tryz.f189) (initSt [.agg [.int .i64 a0_X, .int .i64 a0_Y, .int .i64 a0_Z], .agg [.int .i64 a1_X, .int .i64 a1_Y, .int .i64 a1_Z]]) (AEnds C_zz false Tryz.f189 Post) = w_zbm F a0_X a0_Y a0_Z a1_X a1_Y a1_Z (fun r0_X r0_Y r0_Z => Post (.agg [.int .i64 r0_X, .int .i64 r0_Y, .int .i64 r0_Z])) := by
  rw [entry_zbm]
  rfl
def m_zbm : Model UU
  | [.agg [.int .i64 a0_X, .int .i64 a0_Y, .int .i64 a0_Z], .agg [.int .i64 a1_X, .int .i64 a1_Y, .int .i64 a1_Z]] => some ([], .agg [.int .i64 ((sp_zbm a0_X a0_Y a0_Z a1_X a1_Y a1_Z).1), .int .i64 ((sp_zbm a0_X a0_Y a0_Z a1_X a1_Y a1_Z).2.1), .int .i64 ((sp_zbm a0_X a0_Y a0_Z a1_X a1_Y a1_Z).2.2)])
  | _ => none
def C_zbm : Cfg UU := C_zz.add 189 m_zbm
theorem s_zbm : SumOK C_zbm := by
  refine s_zz.addD mixed (fn := Tryz.f189) (c := bo Tryz.f189) Tryz.func189 (by kernel_rfl) (by kernel_rfl) ?_
  intro xs cs r h hc
  unfold m_zbm at h
  split at h
  · rename_i a0_X a0_Y a0_Z a1_X a1_Y a1_Z
    cases h
    obtain ⟨F, hF⟩ := ok_zbm a0_X a0_Y a0_Z a1_X a1_Y a1_Z
    refine ⟨by kernel_rfl, M_zbm, F, false, ⟨?_⟩⟩
    rw [exec_zbm]
    refine hF _ ?_
    rfl
  · cases h
theorem entry_zax (F : Nat) (Post : AVal UU → Prop) (y0 y1 y2 y3 y4 y5 y6 y7 y8 y9 y10 : Int) : exec C_zbm Tryz.f148.ntmps M_zax F 0 (bo Tryz.f148) (initSt [.agg [.int .i64 y0, .int .i64 y1, .int .i64 y2, .int .i64 y3, .int .i64 y4, .int .i64 y5, .int .i64 y6, .int .i64 y7, .int .i64 y8, .int .i64 y9, .int .i64 y10]]) (AEnds C_zbm false Tryz.f148 Post) = g_zax_e y0 y1 y2 y3 y4 y5 y6 y7 y8 y9 y10 (fun r0_X r0_Y r0_Z => Post (.agg [.int .i64 r0_X, .int .i64 r0_Y, .int .i64 r0_Z])) := by kernel_rfl
theorem exec_zax (F : Nat) (Post : AVal UU → Prop) (y0 y1 y2 y3 y4 y5 y6 y7 y8 y9 y10 : Int) : exec C_zbm Tryz.f148.ntmps M_zax F 0 (bo Tryz.f148) (initSt [.agg [.int .i64 y0, .int .i64 y1, .int .i64 y2, .int .i64 y3, .int .i64 y4, .int .i64 y5, .int .i64 y6, .int .i64 y7, .int .i64 y8, .int .i64 y9, .int .i64 y10]]) (AEnds C_zbm false Tryz.f148 Post) = w_zax F y0 y1 y2 y3 y4 y5 y6 y7 y8 y9 y10 (fun r0_X r0_Y r0_Z => Post (.agg [.int .i64 r0_X, .int .i64 r0_Y, .int .i64 r0_Z])) := by
  rw [entry_zax]
  rfl
def m_zax : Model UU
  | [.agg [.int .i64 y0, .int .i64 y1, .int .i64 y2, .int .i64 y3, .int .i64 y4, .int .i64 y5, .int .i64 y6, .int .i64 y7, .int .i64 y8, .int .i64 y9, .int .i64 y10]] => some ([], .agg [.int .i64 ((sp_zax y0 y1 y2 y3 y4 y5 y6 y7 y8 y9 y10).1), .int .i64 ((sp_zax y0 y1 y2 y3 y4 y5 y6 y7 y8 y9 y10).2.1), .int .i64 ((sp_zax y0 y1 y2 y3 y4 y5 y6 y7 y8 y9 y10).2.2)])
  | _ => none
def C_zax : Cfg UU := C_zbm.add 148 m_zax
theorem s_zax : SumOK C_zax := by
  refine s_zbm.addD mixed (fn := Tryz.f148) (c := bo Tryz.f148) Tryz.func148 (by kernel_rfl) (by kernel_rfl) ?_
  intro xs cs r h hc
  unfold m_zax at h
  split at h
  · rename_i y0 y1 y2 y3 y4 y5 y6 y7 y8 y9 y10
    cases h
    obtain ⟨F, hF⟩ := ok_zax y0 y1 y2 y3 y4 y5 y6 y7 y8 y9 y10
    refine ⟨by kernel_rfl, M_zax, F, false, ⟨?_⟩⟩
    rw [exec_zax]
    refine hF _ ?_
    rfl
  · cases h
theorem entry_zg (F : Nat) (Post : AVal UU → Prop) (y0 y1 y2 y3 y4 y5 y6 y7 y8 y9 y10 y11 y12 y13 y14 y15 y16 y17 a1_X a1_Y a1_W a1_H : Int) : exec C_zax Tryz.f47.ntmps M_zg F 0 (bo Tryz.f47) (initSt [.agg [.int .i64 y0, .int .i64 y1, .int .i64 y2, .int .i64 y3, .int .i64 y4, .int .i64 y5, .int .i64 y6, .int .i64 y7, .int .i64 y8, .int .i64 y9, .int .i64 y10, .int .i64 y11, .int .i64 y12, .int .i64 y13, .int .i64 y14, .int .i64 y15, .int .i64 y16, .int .i64 y17], .agg [.int .i64 a1_X, .int .i64 a1_Y, .int .i64 a1_W, .int .i64 a1_H]]) (AEnds C_zax false Tryz.f47 Post) = g_zg_e y0 y1 y2 y3 y4 y5 y6 y7 y8 y9 y10 y11 y12 y13 y14 y15 y16 y17 a1_X a1_Y a1_W a1_H (fun r0_0 r0_1 r0_2 r0_3 r0_4 r0_5 r0_6 r0_7 r0_8 r0_9 r0_10 => Post (.agg [.int .i64 r0_0, .int .i64 r0_1, .int .i64 r0_2, .int .i64 r0_3, .int .i64 r0_4, .int .i64 r0_5, .int .i64 r0_6, .int .i64 r0_7, .int .i64 r0_8, .int .i64 r0_9, .int .i64 r0_10])) := by kernel_rfl
theorem exec_zg (F : Nat) (Post : AVal UU → Prop) (y0 y1 y2 y3 y4 y5 y6 y7 y8 y9 y10 y11 y12 y13 y14 y15 y16 y17 a1_X a1_Y a1_W a1_H : Int) : exec C_zax Tryz.f47.ntmps M_zg F 0 (bo Tryz.f47) (initSt [.agg [.int .i64 y0, .int .i64 y1, .int .i64 y2, .int .i64 y3, .int .i64 y4, .int .i64 y5, .int .i64 y6, .int .i64 y7, .int .i64 y8, .int .i64 y9, .int .i64 y10, .int .i64 y11, .int .i64 y12, .int .i64 y13, .int .i64 y14, .int .i64 y15, .int .i64 y16, .int .i64 y17], .agg [.int .i64 a1_X, .int .i64 a1_Y, .int .i64 a1_W, .int .i64 a1_H]]) (AEnds C_zax false Tryz.f47 Post) = w_zg F y0 y1 y2 y3 y4 y5 y6 y7 y8 y9 y10 y11 y12 y13 y14 y15 y16 y17 a1_X a1_Y a1_W a1_H (fun r0_0 r0_1 r0_2 r0_3 r0_4 r0_5 r0_6 r0_7 r0_8 r0_9 r0_10 => Post (.agg [.int .i64 r0_0, .int .i64 r0_1, .int .i64 r0_2, .int .i64 r0_3, .int .i64 r0_4, .int .i64 r0_5, .int .i64 r0_6, .int .i64 r0_7, .int .i64 r0_8, .int .i64 r0_9, .int .i64 r0_10])) := by
  rw [entry_zg]
  rfl
def m_zg : Model UU
  | [.agg [.int .i64 y0, .int .i64 y1, .int .i64 y2, .int .i64 y3, .int .i64 y4, .int .i64 y5, .int .i64 y6, .int .i64 y7, .int .i64 y8, .int .i64 y9, .int .i64 y10, .int .i64 y11, .int .i64 y12, .int .i64 y13, .int .i64 y14, .int .i64 y15, .int .i64 y16, .int .i64 y17], .agg [.int .i64 a1_X, .int .i64 a1_Y, .int .i64 a1_W, .int .i64 a1_H]] => some ([], .agg [.int .i64 ((sp_zg y0 y1 y2 y3 y4 y5 y6 y7 y8 y9 y10 y11 y12 y13 y14 y15 y16 y17 a1_X a1_Y a1_W a1_H).1), .int .i64 ((sp_zg y0 y1 y2 y3 y4 y5 y6 y7 y8 y9 y10 y11 y12 y13 y14 y15 y16 y17 a1_X a1_Y a1_W a1_H).2.1), .int .i64 ((sp_zg y0 y1 y2 y3 y4 y5 y6 y7 y8 y9 y10 y11 y12 y13 y14 y15 y16 y17 a1_X a1_Y a1_W a1_H).2.2.1), .int .i64 ((sp_zg y0 y1 y2 y3 y4 y5 y6 y7 y8 y9 y10 y11 y12 y13 y14 y15 y16 y17 a1_X a1_Y a1_W a1_H).2.2.2.1), .int .i64 ((sp_zg y0 y1 y2 y3 y4 y5 y6 y7 y8 y9 y10 y11 y12 y13 y14 y15 y16 y17 a1_X a1_Y a1_W a1_H).2.2.2.2.1), .int .i64 ((sp_zg y0 y1 y2 y3 y4 y5 y6 y7 y8 y9 y10 y11 y12 y13 y14 y15 y16 y17 a1_X a1_Y a1_W a1_H).2.2.2.2.2.1), .int .i64 ((sp_zg y0 y1 y2 y3 y4 y5 y6 y7 y8 y9 y10 y11 y12 y13 y14 y15 y16 y17 a1_X a1_Y a1_W a1_H).2.2.2.2.2.2.1), .int .i64 ((sp_zg y0 y1 y2 y3 y4 y5 y6 y7 y8 y9 y10 y11 y12 y13 y14 y15 y16 y17 a1_X a1_Y a1_W a1_H).2.2.2.2.2.2.2.1), .int .i64 ((sp_zg y0 y1 y2 y3 y4 y5 y6 y7 y8 y9 y10 y11 y12 y13 y14 y15 y16 y17 a1_X a1_Y a1_W a1_H).2.2.2.2.2.2.2.2.1), .int .i64 ((sp_zg y0 y1 y2 y3 y4 y5 y6 y7 y8 y9 y10 y11 y12 y13 y14 y15 y16 y17 a1_X a1_Y a1_W a1_H).2.2.2.2.2.2.2.2.2.1), .int .i64 ((sp_zg y0 y1 y2 y3 y4 y5 y6 y7 y8 y9 y10 y11 y12 y13 y14 y15 y16 y17 a1_X a1_Y a1_W a1_H).2.2.2.2.2.2.2.2.2.2)])
  | _ => none
def C_zg : Cfg UU := C_zax.add 47 m_zg
theorem s_zg : SumOK C_zg := by
  refine s_zax.addD mixed (fn := Tryz.f47) (c := bo Tryz.f47) Tryz.func47 (by kernel_rfl) (by kernel_rfl) ?_
  intro xs cs r h hc
  unfold m_zg at h
  split at h
  · rename_i y0 y1 y2 y3 y4 y5 y6 y7 y8 y9 y10 y11 y12 y13 y14 y15 y16 y17 a1_X a1_Y a1_W a1_H
    cases h
    obtain ⟨F, hF⟩ := ok_zg y0 y1 y2 y3 y4 y5 y6 y7 y8 y9 y10 y11 y12 y13 y14 y15 y16 y17 a1_X a1_Y a1_W a1_H
    refine ⟨by kernel_rfl, M_zg, F, false, ⟨?_⟩⟩
    rw [exec_zg]
    refine hF _ ?_
    rfl
  · cases h
theorem entry_zbt (F : Nat) (Post : AVal UU → Prop) (a0_x a0_y a1_x a1_y : Int) : exec C_zg Tryz.f111.ntmps M_zbt F 0 (bo Tryz.f111) (initSt [.agg [.int .i64 a0_x, .int .i64 a0_y], .agg [.int .i64 a1_x, .int .i64 a1_y]]) (AEnds C_zg false Tryz.f111 Post) = g_zbt_e a0_x a0_y a1_x a1_y (fun r0 => Post (.int .i64 r0)) := by kernel_rfl
theorem exec_zbt (F : Nat) (Post : AVal UU → Prop) (a0_x a0_y a1_x a1_y : Int) : exec C_zg Tryz.f111.ntmps M_zbt F 0 (bo Tryz.f111) (initSt [.agg [.int .i64 a0_x, .int .i64 a0_y], .agg [.int .i64 a1_x, .int .i64 a1_y]]) (AEnds C_zg false Tryz.f111 Post) = w_zbt F a0_x a0_y a1_x a1_y (fun r0 => Post (.int .i64 r0)) := by
  rw [entry_zbt]
  rfl
def m_zbt : Model UU
  | [.agg [.int .i64 a0_x, .int .i64 a0_y], .agg [.int .i64 a1_x, .int .i64 a1_y]] => some ([], .int .i64 (sp_zbt a0_x a0_y a1_x a1_y))
  | _ => none
def C_zbt : Cfg UU := C_zg.add 111 m_zbt
theorem s_zbt : SumOK C_zbt := by
  refine s_zg.addD mixed (fn := Tryz.f111) (c := bo Tryz.f111) Tryz.func111 (by kernel_rfl) (by kernel_rfl) ?_
  intro xs cs r h hc
  unfold m_zbt at h
  split at h
  · rename_i a0_x a0_y a1_x a1_y
    cases h
    obtain ⟨F, hF⟩ := ok_zbt a0_x a0_y a1_x a1_y
    refine ⟨by kernel_rfl, M_zbt, F, false, ⟨?_⟩⟩
    rw [exec_zbt]
    refine hF _ ?_
    rfl
  · cases h
theorem entry_zbu (F : Nat) (Post : AVal UU → Prop) (a0_X a0_Y a0_Z a1 a2_X a2_Y a2_Z a3 a4_X a4_Y a4_Z : Int) : exec C_zbt Tryz.f50.ntmps M_zbu F 0 (bo Tryz.f50) (initSt [.agg [.int .i64 a0_X, .int .i64 a0_Y, .int .i64 a0_Z], .int .i64 a1, .agg [.int .i64 a2_X, .int .i64 a2_Y, .int .i64 a2_Z], .int .i64 a3, .agg [.int .i64 a4_X, .int .i64 a4_Y, .int .i64 a4_Z]]) (AEnds C_zbt false Tryz.f50 Post) = g_zbu_e a0_X a0_Y a0_Z a1 a2_X a2_Y a2_Z a3 a4_X a4_Y a4_Z (fun r0_X r0_Y r0_Z => Post (.agg [.int .i64 r0_X, .int .i64 r0_Y, .int .i64 r0_Z])) := by kernel_rfl
theorem exec_zbu (F : Nat) (Post : AVal UU → Prop) (a0_X a0_Y a0_Z a1 a2_X a2_Y a2_Z a3 a4_X a4_Y a4_Z : Int) : exec C_zbt Tryz.f50.ntmps M_zbu F 0 (bo Tryz.f50) (initSt [.agg [.int .i64 a0_X, .int .i64 a0_Y, .int .i64 a0_Z], .int .i64 a1, .agg [.int .i64 a2_X, .int .i64 a2_Y, .int .i64 a2_Z], .int .i64 a3, .agg [.int .i64 a4_X, .int .i64 a4_Y, .int .i64 a4_Z]]) (AEnds C_zbt false Tryz.f50 Post) = w_zbu F a0_X a0_Y a0_Z a1 a2_X a2_Y a2_Z a3 a4_X a4_Y a4_Z (fun r0_X r0_Y r0_Z => Post (.agg [.int .i64 r0_X, .int .i64 r0_Y, .int .i64 r0_Z])) := by
  rw [entry_zbu]
  rfl
def m_zbu : Model UU
  | [.agg [.int .i64 a0_X, .int .i64 a0_Y, .int .i64 a0_Z], .int .i64 a1, .agg [.int .i64 a2_X, .int .i64 a2_Y, .int .i64 a2_Z], .int .i64 a3, .agg [.int .i64 a4_X, .int .i64 a4_Y, .int .i64 a4_Z]] => some ([], .agg [.int .i64 ((sp_zbu a0_X a0_Y a0_Z a1 a2_X a2_Y a2_Z a3 a4_X a4_Y a4_Z).1), .int .i64 ((sp_zbu a0_X a0_Y a0_Z a1 a2_X a2_Y a2_Z a3 a4_X a4_Y a4_Z).2.1), .int .i64 ((sp_zbu a0_X a0_Y a0_Z a1 a2_X a2_Y a2_Z a3 a4_X a4_Y a4_Z).2.2)])
  | _ => none
def C_zbu : Cfg UU := C_zbt.add 50 m_zbu
theorem s_zbu : SumOK C_zbu := by
  refine s_zbt.addD mixed (fn := Tryz.f50) (c := bo Tryz.f50) Tryz.func50 (by kernel_rfl) (by kernel_rfl) ?_
  intro xs cs r h hc
  unfold m_zbu at h
  split at h
  · rename_i a0_X a0_Y a0_Z a1 a2_X a2_Y a2_Z a3 a4_X a4_Y a4_Z
    cases h
    obtain ⟨F, hF⟩ := ok_zbu a0_X a0_Y a0_Z a1 a2_X a2_Y a2_Z a3 a4_X a4_Y a4_Z
    refine ⟨by kernel_rfl, M_zbu, F, false, ⟨?_⟩⟩
    rw [exec_zbu]
    refine hF _ ?_
    rfl
  · cases h
theorem entry_zl (F : Nat) (Post : AVal UU → Prop) (y0 y1 y2 y3 y4 y5 y6 y7 y8 y9 y10 y11 y12 y13 y14 y15 y16 y17 a1_x a1_y : Int) : exec C_zbu Tryz.f49.ntmps M_zl F 0 (bo Tryz.f49) (initSt [.agg [.int .i64 y0, .int .i64 y1, .int .i64 y2, .int .i64 y3, .int .i64 y4, .int .i64 y5, .int .i64 y6, .int .i64 y7, .int .i64 y8, .int .i64 y9, .int .i64 y10, .int .i64 y11, .int .i64 y12, .int .i64 y13, .int .i64 y14, .int .i64 y15, .int .i64 y16, .int .i64 y17], .agg [.int .i64 a1_x, .int .i64 a1_y]]) (AEnds C_zbu false Tryz.f49 Post) = g_zl_e y0 y1 y2 y3 y4 y5 y6 y7 y8 y9 y10 y11 y12 y13 y14 y15 y16 y17 a1_x a1_y (fun r0 r1 => Post (.tup [.int .i64 r0, .int .i64 r1])) := by kernel_rfl
theorem exec_zl (F : Nat) (Post : AVal UU → Prop) (y0 y1 y2 y3 y4 y5 y6 y7 y8 y9 y10 y11 y12 y13 y14 y15 y16 y17 a1_x a1_y : Int) : exec C_zbu Tryz.f49.ntmps M_zl F 0 (bo Tryz.f49) (initSt [.agg [.int .i64 y0, .int .i64 y1, .int .i64 y2, .int .i64 y3, .int .i64 y4, .int .i64 y5, .int .i64 y6, .int .i64 y7, .int .i64 y8, .int .i64 y9, .int .i64 y10, .int .i64 y11, .int .i64 y12, .int .i64 y13, .int .i64 y14, .int .i64 y15, .int .i64 y16, .int .i64 y17], .agg [.int .i64 a1_x, .int .i64 a1_y]]) (AEnds C_zbu false Tryz.f49 Post) = w_zl F y0 y1 y2 y3 y4 y5 y6 y7 y8 y9 y10 y11 y12 y13 y14 y15 y16 y17 a1_x a1_y (fun r0 r1 => Post (.tup [.int .i64 r0, .int .i64 r1])) := by
  rw [entry_zl]
  rfl
def m_zl : Model UU
  | [.agg [.int .i64 y0, .int .i64 y1, .int .i64 y2, .int .i64 y3, .int .i64 y4, .int .i64 y5, .int .i64 y6, .int .i64 y7, .int .i64 y8, .int .i64 y9, .int .i64 y10, .int .i64 y11, .int .i64 y12, .int .i64 y13, .int .i64 y14, .int .i64 y15, .int .i64 y16, .int .i64 y17], .agg [.int .i64 a1_x, .int .i64 a1_y]] => some ([], .tup [.int .i64 ((sp_zl y0 y1 y2 y3 y4 y5 y6 y7 y8 y9 y10 y11 y12 y13 y14 y15 y16 y17 a1_x a1_y).1), .int .i64 ((sp_zl y0 y1 y2 y3 y4 y5 y6 y7 y8 y9 y10 y11 y12 y13 y14 y15 y16 y17 a1_x a1_y).2)])
  | _ => none
def C_zl : Cfg UU := C_zbu.add 49 m_zl
theorem s_zl : SumOK C_zl := by
  refine s_zbu.addD mixed (fn := Tryz.f49) (c := bo Tryz.f49) Tryz.func49 (by kernel_rfl) (by kernel_rfl) ?_
  intro xs cs r h hc
  unfold m_zl at h
  split at h
  · rename_i y0 y1 y2 y3 y4 y5 y6 y7 y8 y9 y10 y11 y12 y13 y14 y15 y16 y17 a1_x a1_y
    cases h
    obtain ⟨F, hF⟩ := ok_zl y0 y1 y2 y3 y4 y5 y6 y7 y8 y9 y10 y11 y12 y13 y14 y15 y16 y17 a1_x a1_y
    refine ⟨by kernel_rfl, M_zl, F, false, ⟨?_⟩⟩
    rw [exec_zl]
    refine hF _ ?_
    rfl
  · cases h
theorem entry_zm (F : Nat) (Post : AVal UU → Prop) (y0 y1 y2 y3 y4 y5 y6 y7 y8 y9 y10 y11 y12 y13 y14 y15 y16 y17 a1_x a1_y : Int) : exec C_zl Tryz.f104.ntmps M_zm F 0 (bo Tryz.f104) (initSt [.agg [.int .i64 y0, .int .i64 y1, .int .i64 y2, .int .i64 y3, .int .i64 y4, .int .i64 y5, .int .i64 y6, .int .i64 y7, .int .i64 y8, .int .i64 y9, .int .i64 y10, .int .i64 y11, .int .i64 y12, .int .i64 y13, .int .i64 y14, .int .i64 y15, .int .i64 y16, .int .i64 y17], .agg [.int .i64 a1_x, .int .i64 a1_y]]) (AEnds C_zl false Tryz.f104 Post) = g_zm_e y0 y1 y2 y3 y4 y5 y6 y7 y8 y9 y10 y11 y12 y13 y14 y15 y16 y17 a1_x a1_y (fun r0_X r0_Y r0_Z => Post (.agg [.int .i64 r0_X, .int .i64 r0_Y, .int .i64 r0_Z])) := by kernel_rfl
theorem exec_zm (F : Nat) (Post : AVal UU → Prop) (y0 y1 y2 y3 y4 y5 y6 y7 y8 y9 y10 y11 y12 y13 y14 y15 y16 y17 a1_x a1_y : Int) : exec C_zl Tryz.f104.ntmps M_zm F 0 (bo Tryz.f104) (initSt [.agg [.int .i64 y0, .int .i64 y1, .int .i64 y2, .int .i64 y3, .int .i64 y4, .int .i64 y5, .int .i64 y6, .int .i64 y7, .int .i64 y8, .int .i64 y9, .int .i64 y10, .int .i64 y11, .int .i64 y12, .int .i64 y13, .int .i64 y14, .int .i64 y15, .int .i64 y16, .int .i64 y17], .agg [.int .i64 a1_x, .int .i64 a1_y]]) (AEnds C_zl false Tryz.f104 Post) = w_zm F y0 y1 y2 y3 y4 y5 y6 y7 y8 y9 y10 y11 y12 y13 y14 y15 y16 y17 a1_x a1_y (fun r0_X r0_Y r0_Z => Post (.agg [.int .i64 r0_X, .int .i64 r0_Y, .int .i64 r0_Z])) := by
  rw [entry_zm]
  rfl
def m_zm : Model UU
  | [.agg [.int .i64 y0, .int .i64 y1, .int .i64 y2, .int .i64 y3, .int .i64 y4, .int .i64 y5, .int .i64 y6, .int .i64 y7, .int .i64 y8, .int .i64 y9, .int .i64 y10, .int .i64 y11, .int .i64 y12, .int .i64 y13, .int .i64 y14, .int .i64 y15, .int .i64 y16, .int .i64 y17], .agg [.int .i64 a1_x, .int .i64 a1_y]] => some ([], .agg [.int .i64 ((sp_zm y0 y1 y2 y3 y4 y5 y6 y7 y8 y9 y10 y11 y12 y13 y14 y15 y16 y17 a1_x a1_y).1), .int .i64 ((sp_zm y0 y1 y2 y3 y4 y5 y6 y7 y8 y9 y10 y11 y12 y13 y14 y15 y16 y17 a1_x a1_y).2.1), .int .i64 ((sp_zm y0 y1 y2 y3 y4 y5 y6 y7 y8 y9 y10 y11 y12 y13 y14 y15 y16 y17 a1_x a1_y).2.2)])
  | _ => none
def C_zm : Cfg UU := C_zl.add 104 m_zm
theorem s_zm : SumOK C_zm := by
  refine s_zl.addD mixed (fn := Tryz.f104) (c := bo Tryz.f104) Tryz.func104 (by kernel_rfl) (by kernel_rfl) ?_
  intro xs cs r h hc
  unfold m_zm at h
  split at h
  · rename_i y0 y1 y2 y3 y4 y5 y6 y7 y8 y9 y10 y11 y12 y13 y14 y15 y16 y17 a1_x a1_y
    cases h
    obtain ⟨F, hF⟩ := ok_zm y0 y1 y2 y3 y4 y5 y6 y7 y8 y9 y10 y11 y12 y13 y14 y15 y16 y17 a1_x a1_y
    refine ⟨by kernel_rfl, M_zm, F, false, ⟨?_⟩⟩
    rw [exec_zm]
    refine hF _ ?_
    rfl
  · cases h
theorem entry_za (F : Nat) (Post : AVal UU → Prop) (y0 y1 y2 y3 y4 y5 y6 y7 y8 y9 y10 y11 y12 y13 y14 y15 y16 y17 a1_x a1_y : Int) : exec C_zm Tryz.f105.ntmps M_za F 0 (bo Tryz.f105) (initSt [.agg [.int .i64 y0, .int .i64 y1, .int .i64 y2, .int .i64 y3, .int .i64 y4, .int .i64 y5, .int .i64 y6, .int .i64 y7, .int .i64 y8, .int .i64 y9, .int .i64 y10, .int .i64 y11, .int .i64 y12, .int .i64 y13, .int .i64 y14, .int .i64 y15, .int .i64 y16, .int .i64 y17], .agg [.int .i64 a1_x, .int .i64 a1_y]]) (AEnds C_zm false Tryz.f105 Post) = g_za_e y0 y1 y2 y3 y4 y5 y6 y7 y8 y9 y10 y11 y12 y13 y14 y15 y16 y17 a1_x a1_y (fun r0_X r0_Y r0_Z => Post (.agg [.int .i64 r0_X, .int .i64 r0_Y, .int .i64 r0_Z])) := by kernel_rfl
theorem exec_za (F : Nat) (Post : AVal UU → Prop) (y0 y1 y2 y3 y4 y5 y6 y7 y8 y9 y10 y11 y12 y13 y14 y15 y16 y17 a1_x a1_y : Int) : exec C_zm Tryz.f105.ntmps M_za F 0 (bo Tryz.f105) (initSt [.agg [.int .i64 y0, .int .i64 y1, .int .i64 y2, .int .i64 y3, .int .i64 y4, .int .i64 y5, .int .i64 y6, .int .i64 y7, .int .i64 y8, .int .i64 y9, .int .i64 y10, .int .i64 y11, .int .i64 y12, .int .i64 y13, .int .i64 y14, .int .i64 y15, .int .i64 y16, .int .i64 y17], .agg [.int .i64 a1_x, .int .i64 a1_y]]) (AEnds C_zm false Tryz.f105 Post) = w_za F y0 y1 y2 y3 y4 y5 y6 y7 y8 y9 y10 y11 y12 y13 y14 y15 y16 y17 a1_x a1_y (fun r0_X r0_Y r0_Z => Post (.agg [.int .i64 r0_X, .int .i64 r0_Y, .int .i64 r0_Z])) := by
  rw [entry_za]
  rfl
def m_za : Model UU
  | [.agg [.int .i64 y0, .int .i64 y1, .int .i64 y2, .int .i64 y3, .int .i64 y4, .int .i64 y5, .int .i64 y6, .int .i64 y7, .int .i64 y8, .int .i64 y9, .int .i64 y10, .int .i64 y11, .int .i64 y12, .int .i64 y13, .int .i64 y14, .int .i64 y15, .int .i64 y16, .int .i64 y17], .agg [.int .i64 a1_x, .int .i64 a1_y]] => some ([], .agg [.int .i64 ((sp_za y0 y1 y2 y3 y4 y5 y6 y7 y8 y9 y10 y11 y12 y13 y14 y15 y16 y17 a1_x a1_y).1), .int .i64 ((sp_za y0 y1 y2 y3 y4 y5 y6 y7 y8 y9 y10 y11 y12 y13 y14 y15 y16 y17 a1_x a1_y).2.1), .int .i64 ((sp_za y0 y1 y2 y3 y4 y5 y6 y7 y8 y9 y10 y11 y12 y13 y14 y15 y16 y17 a1_x a1_y).2.2)])
  | _ => none
def C_za : Cfg UU := C_zm.add 105 m_za
theorem s_za : SumOK C_za := by
  refine s_zm.addD mixed (fn := Tryz.f105) (c := bo Tryz.f105) Tryz.func105 (by kernel_rfl) (by kernel_rfl) ?_
  intro xs cs r h hc
  unfold m_za at h
  split at h
  · rename_i y0 y1 y2 y3 y4 y5 y6 y7 y8 y9 y10 y11 y12 y13 y14 y15 y16 y17 a1_x a1_y
    cases h
    obtain ⟨F, hF⟩ := ok_za y0 y1 y2 y3 y4 y5 y6 y7 y8 y9 y10 y11 y12 y13 y14 y15 y16 y17 a1_x a1_y
    refine ⟨by kernel_rfl, M_za, F, false, ⟨?_⟩⟩
    rw [exec_za]
    refine hF _ ?_
    rfl
  · cases h
theorem entry_zac (F : Nat) (Post : AVal UU → Prop) (qf qe qh qg a1_X a1_Y a1_W a1_H a2_X a2_Y a2_W a2_H : Int) : exec C_za Tryz.f103.ntmps M_zac F 0 (bo Tryz.f103) (initSt [.agg [.int .i64 qf, .int .i64 qe, .int .i64 qh, .int .i64 qg], .agg [.int .i64 a1_X, .int .i64 a1_Y, .int .i64 a1_W, .int .i64 a1_H], .agg [.int .i64 a2_X, .int .i64 a2_Y, .int .i64 a2_W, .int .i64 a2_H]]) (AEnds C_za false Tryz.f103 Post) = g_zac_e qf qe qh qg a1_X a1_Y a1_W a1_H a2_X a2_Y a2_W a2_H (fun r0_x r0_y r1 r2 => Post (.tup [.agg [.int .i64 r0_x, .int .i64 r0_y], .int .i64 r1, .bool r2])) := by kernel_rfl
theorem exec_zac (F : Nat) (Post : AVal UU → Prop) (qf qe qh qg a1_X a1_Y a1_W a1_H a2_X a2_Y a2_W a2_H : Int) : exec C_za Tryz.f103.ntmps M_zac F 0 (bo Tryz.f103) (initSt [.agg [.int .i64 qf, .int .i64 qe, .int .i64 qh, .int .i64 qg], .agg [.int .i64 a1_X, .int .i64 a1_Y, .int .i64 a1_W, .int .i64 a1_H], .agg [.int .i64 a2_X, .int .i64 a2_Y, .int .i64 a2_W, .int .i64 a2_H]]) (AEnds C_za false Tryz.f103 Post) = w_zac F qf qe qh qg a1_X a1_Y a1_W a1_H a2_X a2_Y a2_W a2_H (fun r0_x r0_y r1 r2 => Post (.tup [.agg [.int .i64 r0_x, .int .i64 r0_y], .int .i64 r1, .bool r2])) := by
  rw [entry_zac]
  rfl
def m_zac : Model UU
  | [.agg [.int .i64 qf, .int .i64 qe, .int .i64 qh, .int .i64 qg], .agg [.int .i64 a1_X, .int .i64 a1_Y, .int .i64 a1_W, .int .i64 a1_H], .agg [.int .i64 a2_X, .int .i64 a2_Y, .int .i64 a2_W, .int .i64 a2_H]] => some ([], .tup [.agg [.int .i64 ((sp_zac qf qe qh qg a1_X a1_Y a1_W a1_H a2_X a2_Y a2_W a2_H).1), .int .i64 ((sp_zac qf qe qh qg a1_X a1_Y a1_W a1_H a2_X a2_Y a2_W a2_H).2.1)], .int .i64 ((sp_zac qf qe qh qg a1_X a1_Y a1_W a1_H a2_X a2_Y a2_W a2_H).2.2.1), .bool ((sp_zac qf qe qh qg a1_X a1_Y a1_W a1_H a2_X a2_Y a2_W a2_H).2.2.2)])
  | _ => none
def C_zac : Cfg UU := C_za.add 103 m_zac
theorem s_zac : SumOK C_zac := by
  refine s_za.addD mixed (fn := Tryz.f103) (c := bo Tryz.f103) Tryz.func103 (by kernel_rfl) (by kernel_rfl) ?_
  intro xs cs r h hc
  unfold m_zac at h
  split at h
  · rename_i qf qe qh qg a1_X a1_Y a1_W a1_H a2_X a2_Y a2_W a2_H
    cases h
    obtain ⟨F, hF⟩ := ok_zac qf qe qh qg a1_X a1_Y a1_W a1_H a2_X a2_Y a2_W a2_H
    refine ⟨by kernel_rfl, M_zac, F, false, ⟨?_⟩⟩
    rw [exec_zac]
    refine hF _ ?_
    rfl
  · cases h
theorem entry_zbe (F : Nat) (Post : AVal UU → Prop) (a0_X a0_Y a0_Z a1 : Int) : exec C_zac Tryz.f152.ntmps M_zbe F 0 (bo Tryz.f152) (initSt [.agg [.int .i64 a0_X, .int .i64 a0_Y, .int .i64 a0_Z], .int .i64 a1]) (AEnds C_zac false Tryz.f152 Post) = g_zbe_e a0_X a0_Y a0_Z a1 (fun r0_X r0_Y r0_Z => Post (.agg [.int .i64 r0_X, .int .i64 r0_Y, .int .i64 r0_Z])) := by kernel_rfl
theorem exec_zbe (F : Nat) (Post : AVal UU → Prop) (a0_X a0_Y a0_Z a1 : Int) : exec C_zac Tryz.f152.ntmps M_zbe F 0 (bo Tryz.f152) (initSt [.agg [.int .i64 a0_X, .int .i64 a0_Y, .int .i64 a0_Z], .int .i64 a1]) (AEnds C_zac false Tryz.f152 Post) = w_zbe F a0_X a0_Y a0_Z a1 (fun r0_X r0_Y r0_Z => Post (.agg [.int .i64 r0_X, .int .i64 r0_Y, .int .i64 r0_Z])) := by
  rw [entry_zbe]
  rfl
def m_zbe : Model UU
  | [.agg [.int .i64 a0_X, .int .i64 a0_Y, .int .i64 a0_Z], .int .i64 a1] => some ([], .agg [.int .i64 ((sp_zbe a0_X a0_Y a0_Z a1).1), .int .i64 ((sp_zbe a0_X a0_Y a0_Z a1).2.1), .int .i64 ((sp_zbe a0_X a0_Y a0_Z a1).2.2)])
  | _ => none
def C_zbe : Cfg UU := C_zac.add 152 m_zbe
theorem s_zbe : SumOK C_zbe := by
  refine s_zac.addD mixed (fn := Tryz.f152) (c := bo Tryz.f152) Tryz.func152 (by kernel_rfl) (by kernel_rfl) ?_
  intro xs cs r h hc
  unfold m_zbe at h
  split at h
  · rename_i a0_X a0_Y a0_Z a1
    cases h
    obtain ⟨F, hF⟩ := ok_zbe a0_X a0_Y a0_Z a1
    refine ⟨by kernel_rfl, M_zbe, F, false, ⟨?_⟩⟩
    rw [exec_zbe]
    refine hF _ ?_
    rfl
  · cases h
theorem entry_zau (F : Nat) (Post : AVal UU → Prop) (a0 : Int) (a1 : Bool) (a2_X a2_Y a2_Z a3_X a3_Y a3_Z : Int) : exec C_zbe Tryz.f106.ntmps M_zau F 0 (bo Tryz.f106) (initSt [.int .i64 a0, .bool a1, .agg [.int .i64 a2_X, .int .i64 a2_Y, .int .i64 a2_Z], .agg [.int .i64 a3_X, .int .i64 a3_Y, .int .i64 a3_Z]]) (AEnds C_zbe false Tryz.f106 Post) = g_zau_e a0 a1 a2_X a2_Y a2_Z a3_X a3_Y a3_Z (fun r0_X r0_Y r0_Z => Post (.agg [.int .i64 r0_X, .int .i64 r0_Y, .int .i64 r0_Z])) := by kernel_rfl
theorem exec_zau (F : Nat) (Post : AVal UU → Prop) (a0 : Int) (a1 : Bool) (a2_X a2_Y a2_Z a3_X a3_Y a3_Z : Int) : exec C_zbe Tryz.f106.ntmps M_zau F 0 (bo Tryz.f106) (initSt [.int .i64 a0, .bool a1, .agg [.int .i64 a2_X, .int .i64 a2_Y, .int .i64 a2_Z], .agg [.int .i64 a3_X, .int .i64 a3_Y, .int .i64 a3_Z]]) (AEnds C_zbe false Tryz.f106 Post) = w_zau F a0 a1 a2_X a2_Y a2_Z a3_X a3_Y a3_Z (fun r0_X r0_Y r0_Z => Post (.agg [.int .i64 r0_X, .int .i64 r0_Y, .int .i64 r0_Z])) := by
  rw [entry_zau]
  rfl
def m_zau : Model UU
  | [.int .i64 a0, .bool a1, .agg [.int .i64 a2_X, .int .i64 a2_Y, .int .i64 a2_Z], .agg [.int .i64 a3_X, .int .i64 a3_Y, .int .i64 a3_Z]] => some ([], .agg [.int .i64 ((sp_zau a0 a1 a2_X a2_Y a2_Z a3_X a3_Y a3_Z).1), .int .i64 ((sp_zau a0 a1 a2_X a2_Y a2_Z a3_X a3_Y a3_Z).2.1), .int .i64 ((sp_zau a0 a1 a2_X a2_Y a2_Z a3_X a3_Y a3_Z).2.2)])
  | _ => none
def C_zau : Cfg UU := C_zbe.add 106 m_zau
theorem s_zau : SumOK C_zau := by
  refine s_zbe.addD mixed (fn := Tryz.f106) (c := bo Tryz.f106) Tryz.func106 (by kernel_rfl) (by kernel_rfl) ?_
  intro xs cs r h hc
  unfold m_zau at h
  split at h
  · rename_i a0 a1 a2_X a2_Y a2_Z a3_X a3_Y a3_Z
    cases h
    obtain ⟨F, hF⟩ := ok_zau a0 a1 a2_X a2_Y a2_Z a3_X a3_Y a3_Z
    refine ⟨by kernel_rfl, M_zau, F, false, ⟨?_⟩⟩
    rw [exec_zau]
    refine hF _ ?_
    rfl
  · cases h
theorem entry_zbr (F : Nat) (Post : AVal UU → Prop) (a0_0 a0_1 a0_2 : Int) : exec C_zau Tryz.f153.ntmps M_zbr F 0 (bo Tryz.f153) (initSt [.agg [.int .i64 a0_0, .int .i64 a0_1, .int .i64 a0_2]]) (AEnds C_zau false Tryz.f153 Post) = g_zbr_e a0_0 a0_1 a0_2 (fun r0_X r0_Y r0_Z => Post (.agg [.int .i64 r0_X, .int .i64 r0_Y, .int .i64 r0_Z])) := by kernel_rfl
theorem exec_zbr (F : Nat) (Post : AVal UU → Prop) (a0_0 a0_1 a0_2 : Int) : exec C_zau Tryz.f153.ntmps M_zbr F 0 (bo Tryz.f153) (initSt [.agg [.int .i64 a0_0, .int .i64 a0_1, .int .i64 a0_2]]) (AEnds C_zau false Tryz.f153 Post) = w_zbr F a0_0 a0_1 a0_2 (fun r0_X r0_Y r0_Z => Post (.agg [.int .i64 r0_X, .int .i64 r0_Y, .int .i64 r0_Z])) := by
  rw [entry_zbr]
  rfl
def m_zbr : Model UU
  | [.agg [.int .i64 a0_0, .int .i64 a0_1, .int .i64 a0_2]] => some ([], .agg [.int .i64 ((sp_zbr a0_0 a0_1 a0_2).1), .int .i64 ((sp_zbr a0_0 a0_1 a0_2).2.1), .int .i64 ((sp_zbr a0_0 a0_1 a0_2).2.2)])
  | _ => none
def C_zbr : Cfg UU := C_zau.add 153 m_zbr
theorem s_zbr : SumOK C_zbr := by
  refine s_zau.addD mixed (fn := Tryz.f153) (c := bo Tryz.f153) Tryz.func153 (by kernel_rfl) (by kernel_rfl) ?_
  intro xs cs r h hc
  unfold m_zbr at h
  split at h
  · rename_i a0_0 a0_1 a0_2
    cases h
    obtain ⟨F, hF⟩ := ok_zbr a0_0 a0_1 a0_2
    refine ⟨by kernel_rfl, M_zbr, F, false, ⟨?_⟩⟩
    rw [exec_zbr]
    refine hF _ ?_
    rfl
  · cases h
theorem entry_zbc (F : Nat) (Post : AVal UU → Prop) (a0_X a0_Y a0_Z : Int) : exec C_zbr Tryz.f155.ntmps M_zbc F 0 (bo Tryz.f155) (initSt [.agg [.int .i64 a0_X, .int .i64 a0_Y, .int .i64 a0_Z]]) (AEnds C_zbr false Tryz.f155 Post) = g_zbc_e a0_X a0_Y a0_Z (fun r0_0 r0_1 r0_2 => Post (.agg [.int .i64 r0_0, .int .i64 r0_1, .int .i64 r0_2])) := by kernel_rfl
theorem exec_zbc (F : Nat) (Post : AVal UU → Prop) (a0_X a0_Y a0_Z : Int) : exec C_zbr Tryz.f155.ntmps M_zbc F 0 (bo Tryz.f155) (initSt [.agg [.int .i64 a0_X, .int .i64 a0_Y, .int .i64 a0_Z]]) (AEnds C_zbr false Tryz.f155 Post) = w_zbc F a0_X a0_Y a0_Z (fun r0_0 r0_1 r0_2 => Post (.agg [.int .i64 r0_0, .int .i64 r0_1, .int .i64 r0_2])) := by
  rw [entry_zbc]
  rfl
def m_zbc : Model UU
  | [.agg [.int .i64 a0_X, .int .i64 a0_Y, .int .i64 a0_Z]] => some ([], .agg [.int .i64 ((sp_zbc a0_X a0_Y a0_Z).1), .int .i64 ((sp_zbc a0_X a0_Y a0_Z).2.1), .int .i64 ((sp_zbc a0_X a0_Y a0_Z).2.2)])
  | _ => none
def C_zbc : Cfg UU := C_zbr.add 155 m_zbc
theorem s_zbc : SumOK C_zbc := by
  refine s_zbr.addD mixed (fn := Tryz.f155) (c := bo Tryz.f155) Tryz.func155 (by kernel_rfl) (by kernel_rfl) ?_
  intro xs cs r h hc
  unfold m_zbc at h
  split at h
  · rename_i a0_X a0_Y a0_Z
    cases h
    obtain ⟨F, hF⟩ := ok_zbc a0_X a0_Y a0_Z
    refine ⟨by kernel_rfl, M_zbc, F, false, ⟨?_⟩⟩
    rw [exec_zbc]
    refine hF _ ?_
    rfl
  · cases h
theorem entry_zba (F : Nat) (Post : AVal UU → Prop) (a0_0 a0_1 a0_2 a1_0 a1_1 a1_2 : Int) : exec C_zbc Tryz.f154.ntmps M_zba F 0 (bo Tryz.f154) (initSt [.agg [.int .i64 a0_0, .int .i64 a0_1, .int .i64 a0_2], .agg [.int .i64 a1_0, .int .i64 a1_1, .int .i64 a1_2]]) (AEnds C_zbc false Tryz.f154 Post) = g_zba_e a0_0 a0_1 a0_2 a1_0 a1_1 a1_2 (fun r0_0 r0_1 r0_2 => Post (.agg [.int .i64 r0_0, .int .i64 r0_1, .int .i64 r0_2])) := by kernel_rfl
theorem exec_zba (F : Nat) (Post : AVal UU → Prop) (a0_0 a0_1 a0_2 a1_0 a1_1 a1_2 : Int) : exec C_zbc Tryz.f154.ntmps M_zba F 0 (bo Tryz.f154) (initSt [.agg [.int .i64 a0_0, .int .i64 a0_1, .int .i64 a0_2], .agg [.int .i64 a1_0, .int .i64 a1_1, .int .i64 a1_2]]) (AEnds C_zbc false Tryz.f154 Post) = w_zba F a0_0 a0_1 a0_2 a1_0 a1_1 a1_2 (fun r0_0 r0_1 r0_2 => Post (.agg [.int .i64 r0_0, .int .i64 r0_1, .int .i64 r0_2])) := by
  rw [entry_zba]
  rfl
def m_zba : Model UU
  | [.agg [.int .i64 a0_0, .int .i64 a0_1, .int .i64 a0_2], .agg [.int .i64 a1_0, .int .i64 a1_1, .int .i64 a1_2]] => some ([], .agg [.int .i64 ((sp_zba a0_0 a0_1 a0_2 a1_0 a1_1 a1_2).1), .int .i64 ((sp_zba a0_0 a0_1 a0_2 a1_0 a1_1 a1_2).2.1), .int .i64 ((sp_zba a0_0 a0_1 a0_2 a1_0 a1_1 a1_2).2.2)])
  | _ => none
def C_zba : Cfg UU := C_zbc.add 154 m_zba
theorem s_zba : SumOK C_zba := by
  refine s_zbc.addD mixed (fn := Tryz.f154) (c := bo Tryz.f154) Tryz.func154 (by kernel_rfl) (by kernel_rfl) ?_
  intro xs cs r h hc
  unfold m_zba at h
  split at h
  · rename_i a0_0 a0_1 a0_2 a1_0 a1_1 a1_2
    cases h
    obtain ⟨F, hF⟩ := ok_zba a0_0 a0_1 a0_2 a1_0 a1_1 a1_2
    refine ⟨by kernel_rfl, M_zba, F, false, ⟨?_⟩⟩
    rw [exec_zba]
    refine hF _ ?_
    rfl
  · cases h
theorem entry_zat (F : Nat) (Post : AVal UU → Prop) (y0 y1 y2 y3 y4 y5 y6 y7 y8 y9 y10 : Int) : exec C_zba Tryz.f107.ntmps M_zat F 0 (bo Tryz.f107) (initSt [.agg [.int .i64 y0, .int .i64 y1, .int .i64 y2, .int .i64 y3, .int .i64 y4, .int .i64 y5, .int .i64 y6, .int .i64 y7, .int .i64 y8, .int .i64 y9, .int .i64 y10]]) (AEnds C_zba false Tryz.f107 Post) = g_zat_e y0 y1 y2 y3 y4 y5 y6 y7 y8 y9 y10 (fun r0_X r0_Y r0_Z => Post (.agg [.int .i64 r0_X, .int .i64 r0_Y, .int .i64 r0_Z])) := by kernel_rfl
theorem exec_zat (F : Nat) (Post : AVal UU → Prop) (y0 y1 y2 y3 y4 y5 y6 y7 y8 y9 y10 : Int) : exec C_zba Tryz.f107.ntmps M_zat F 0 (bo Tryz.f107) (initSt [.agg [.int .i64 y0, .int .i64 y1, .int .i64 y2, .int .i64 y3, .int .i64 y4, .int .i64 y5, .int .i64 y6, .int .i64 y7, .int .i64 y8, .int .i64 y9, .int .i64 y10]]) (AEnds C_zba false Tryz.f107 Post) = w_zat F y0 y1 y2 y3 y4 y5 y6 y7 y8 y9 y10 (fun r0_X r0_Y r0_Z => Post (.agg [.int .i64 r0_X, .int .i64 r0_Y, .int .i64 r0_Z])) := by
  rw [entry_zat]
  rfl
def m_zat : Model UU
  | [.agg [.int .i64 y0, .int .i64 y1, .int .i64 y2, .int .i64 y3, .int .i64 y4, .int .i64 y5, .int .i64 y6, .int .i64 y7, .int .i64 y8, .int .i64 y9, .int .i64 y10]] => some ([], .agg [.int .i64 ((sp_zat y0 y1 y2 y3 y4 y5 y6 y7 y8 y9 y10).1), .int .i64 ((sp_zat y0 y1 y2 y3 y4 y5 y6 y7 y8 y9 y10).2.1), .int .i64 ((sp_zat y0 y1 y2 y3 y4 y5 y6 y7 y8 y9 y10).2.2)])
  | _ => none
def C_zat : Cfg UU := C_zba.add 107 m_zat
theorem s_zat : SumOK C_zat := by
  refine s_zba.addD mixed (fn := Tryz.f107) (c := bo Tryz.f107) Tryz.func107 (by kernel_rfl) (by kernel_rfl) ?_
  intro xs cs r h hc
  unfold m_zat at h
  split at h
  · rename_i y0 y1 y2 y3 y4 y5 y6 y7 y8 y9 y10
    cases h
    obtain ⟨F, hF⟩ := ok_zat y0 y1 y2 y3 y4 y5 y6 y7 y8 y9 y10
    refine ⟨by kernel_rfl, M_zat, F, false, ⟨?_⟩⟩
    rw [exec_zat]
    refine hF _ ?_
    rfl
  · cases h
theorem entry_fh1 (F : Nat) (Post : AVal UU → Prop) (a_0 a_1 a_2 a_3 r_0 r_1 r_2 r_3 : Int) : exec C_zat Tryz.f45.ntmps M_fh1 F 0 (bo Tryz.f45) (initSt [.agg [.int .i64 a_0, .int .i64 a_1, .int .i64 a_2, .int .i64 a_3], .ref [.int .i64 r_0, .int .i64 r_1, .int .i64 r_2, .int .i64 r_3] 0]) (AEnds C_zat false Tryz.f45 Post) = g_fh1_e a_0 a_1 a_2 a_3 r_0 r_1 r_2 r_3 (fun r0 => Post (.bool r0)) := by kernel_rfl
theorem exec_fh1 (F : Nat) (Post : AVal UU → Prop) (a_0 a_1 a_2 a_3 r_0 r_1 r_2 r_3 : Int) : exec C_zat Tryz.f45.ntmps M_fh1 F 0 (bo Tryz.f45) (initSt [.agg [.int .i64 a_0, .int .i64 a_1, .int .i64 a_2, .int .i64 a_3], .ref [.int .i64 r_0, .int .i64 r_1, .int .i64 r_2, .int .i64 r_3] 0]) (AEnds C_zat false Tryz.f45 Post) = w_fh1 F a_0 a_1 a_2 a_3 r_0 r_1 r_2 r_3 (fun r0 => Post (.bool r0)) := by
  rw [entry_fh1]
  rfl
def m_fh1 : Model UU
  | [.agg [.int .i64 a_0, .int .i64 a_1, .int .i64 a_2, .int .i64 a_3], .ref [.int .i64 r_0, .int .i64 r_1, .int .i64 r_2, .int .i64 r_3] 0] => some ([], .bool (sp_fh1 a_0 a_1 a_2 a_3 r_0 r_1 r_2 r_3))
  | _ => none
def C_fh1 : Cfg UU := C_zat.add 45 m_fh1
theorem s_fh1 : SumOK C_fh1 := by
  refine s_zat.addD mixed (fn := Tryz.f45) (c := bo Tryz.f45) Tryz.func45 (by kernel_rfl) (by kernel_rfl) ?_
  intro xs cs r h hc
  unfold m_fh1 at h
  split at h
  · rename_i a_0 a_1 a_2 a_3 r_0 r_1 r_2 r_3
    cases h
    obtain ⟨F, hF⟩ := ok_fh1 a_0 a_1 a_2 a_3 r_0 r_1 r_2 r_3
    refine ⟨by kernel_rfl, M_fh1, F, false, ⟨?_⟩⟩
    rw [exec_fh1]
    refine hF _ ?_
    rfl
  · cases h
end
end Go.Proofs.YteffpgliiilnjaaGreatDoor
namespace Go.Proofs.YteffpgliiilnjaaGreatDoor
open Go.Vm Go.RowKit
set_option linter.unusedVariables false
set_option maxRecDepth 100000
noncomputable section
theorem entry_zae (F : Nat) (Post : AVal UU → Prop) (y0 y1 y2 y3 y4 y5 y6 y7 y8 y9 y10 y11 y12 y13 y14 y15 y16 y17 a1_X a1_Y a1_W a1_H qab qac qx qw qy qz qaa qv : Int) (a3 : Bool) : exec C_fh1 Tryz.f100.ntmps M_zae F 0 (bo Tryz.f100) (initSt [.agg [.int .i64 y0, .int .i64 y1, .int .i64 y2, .int .i64 y3, .int .i64 y4, .int .i64 y5, .int .i64 y6, .int .i64 y7, .int .i64 y8, .int .i64 y9, .int .i64 y10, .int .i64 y11, .int .i64 y12, .int .i64 y13, .int .i64 y14, .int .i64 y15, .int .i64 y16, .int .i64 y17], .agg [.int .i64 a1_X, .int .i64 a1_Y, .int .i64 a1_W, .int .i64 a1_H], .agg [.int .i64 qab, .int .i64 qac, .int .i64 qx, .int .i64 qw, .int .i64 qy, .int .i64 qz, .int .i64 qaa, .int .i64 qv], .bool a3]) (AEnds C_fh1 false Tryz.f100 Post) = g_zae_e y0 y1 y2 y3 y4 y5 y6 y7 y8 y9 y10 y11 y12 y13 y14 y15 y16 y17 a1_X a1_Y a1_W a1_H qab qac qx qw qy qz qaa qv a3 (fun r0_0 r0_1 r0_2 r0_3 r0_4 r0_5 r0_6 r0_7 r0_8 r0_9 r0_10 r0_11 r0_12 r0_13 r0_14 r0_15 r0_16 r0_17 => Post (.agg [.int .i64 r0_0, .int .i64 r0_1, .int .i64 r0_2, .int .i64 r0_3, .int .i64 r0_4, .int .i64 r0_5, .int .i64 r0_6, .int .i64 r0_7, .int .i64 r0_8, .int .i64 r0_9, .int .i64 r0_10, .int .i64 r0_11, .int .i64 r0_12, .int .i64 r0_13, .int .i64 r0_14, .int .i64 r0_15, .int .i64 r0_16, .int .i64 r0_17])) := by kernel_rfl
theorem exec_zae (F : Nat) (Post : AVal UU → Prop) (y0 y1 y2 y3 y4 y5 y6 y7 y8 y9 y10 y11 y12 y13 y14 y15 y16 y17 a1_X a1_Y a1_W a1_H qab qac qx qw qy qz qaa qv : Int) (a3 : Bool) : exec C_fh1 Tryz.f100.ntmps M_zae F 0 (bo Tryz.f100) (initSt [.agg [.int .i64 y0, .int .i64 y1, .int .i64 y2, .int .i64 y3, .int .i64 y4, .int .i64 y5, .int .i64 y6, .int .i64 y7, .int .i64 y8, .int .i64 y9, .int .i64 y10, .int .i64 y11, .int .i64 y12, .int .i64 y13, .int .i64 y14, .int .i64 y15, .int .i64 y16, .int .i64 y17], .agg [.int .i64 a1_X, .int .i64 a1_Y, .int .i64 a1_W, .int .i64 a1_H], .agg [.int .i64 qab, .int .i64 qac, .int .i64 qx, .int .i64 qw, .int .i64 qy, .int .i64 qz, .int .i64 qaa, .int .i64 qv], .bool a3]) (AEnds C_fh1 false Tryz.f100 Post) = w_zae F y0 y1 y2 y3 y4 y5 y6 y7 y8 y9 y10 y11 y12 y13 y14 y15 y16 y17 a1_X a1_Y a1_W a1_H qab qac qx qw qy qz qaa qv a3 (fun r0_0 r0_1 r0_2 r0_3 r0_4 r0_5 r0_6 r0_7 r0_8 r0_9 r0_10 r0_11 r0_12 r0_13 r0_14 r0_15 r0_16 r0_17 => Post (.agg [.int .i64 r0_0, .int .i64 r0_1, .int .i64 r0_2, .int .i64 r0_3, .int .i64 r0_4, .int .i64 r0_5, .int .i64 r0_6, .int .i64 r0_7, .int .i64 r0_8, .int .i64 r0_9, .int .i64 r0_10, .int .i64 r0_11, .int .i64 r0_12, .int .i64 r0_13, .int .i64 r0_14, .int .i64 r0_15, .int .i64 r0_16, .int .i64 r0_17])) := by
  rw [entry_zae]
  rfl
def m_zae : Model UU
  | [.agg [.int .i64 y0, .int .i64 y1, .int .i64 y2, .int .i64 y3, .int .i64 y4, .int .i64 y5, .int .i64 y6, .int .i64 y7, .int .i64 y8, .int .i64 y9, .int .i64 y10, .int .i64 y11, .int .i64 y12, .int .i64 y13, .int .i64 y14, .int .i64 y15, .int .i64 y16, .int .i64 y17], .agg [.int .i64 a1_X, .int .i64 a1_Y, .int .i64 a1_W, .int .i64 a1_H], .agg [.int .i64 qab, .int .i64 qac, .int .i64 qx, .int .i64 qw, .int .i64 qy, .int .i64 qz, .int .i64 qaa, .int .i64 qv], .bool a3] => some ([], .agg [.int .i64 ((sp_zae y0 y1 y2 y3 y4 y5 y6 y7 y8 y9 y10 y11 y12 y13 y14 y15 y16 y17 a1_X a1_Y a1_W a1_H qab qac qx qw qy qz qaa qv a3).1), .int .i64 ((sp_zae y0 y1 y2 y3 y4 y5 y6 y7 y8 y9 y10 y11 y12 y13 y14 y15 y16 y17 a1_X a1_Y a1_W a1_H qab qac qx qw qy qz qaa qv a3).2.1), .int .i64 ((sp_zae y0 y1 y2 y3 y4 y5 y6 y7 y8 y9 y10 y11 y12 y13 y14 y15 y16 y17 a1_X a1_Y a1_W a1_H qab qac qx qw qy qz qaa qv a3).2.2.1), .int .i64 ((sp_zae y0 y1 y2 y3 y4 y5 y6 y7 y8 y9 y10 y11 y12 y13 y14 y15 y16 y17 a1_X a1_Y a1_W a1_H qab qac qx qw qy qz qaa qv a3).2.2.2.1), .int .i64 ((sp_zae y0 y1 y2 y3 y4 y5 y6 y7 y8 y9 y10 y11 y12 y13 y14 y15 y16 y17 a1_X a1_Y a1_W a1_H qab qac qx qw qy qz qaa qv a3).2.2.2.2.1), .int .i64 ((sp_zae y0 y1 y2 y3 y4 y5 y6 y7 y8 y9 y10 y11 y12 y13 y14 y15 y16 y17 a1_X a1_Y a1_W a1_H qab qac qx qw qy qz qaa qv a3).2.2.2.2.2.1), .int .i64 ((sp_zae y0 y1 y2 y3 y4 y5 y6 y7 y8 y9 y10 y11 y12 y13 y14 y15 y16 y17 a1_X a1_Y a1_W a1_H qab qac qx qw qy qz qaa qv a3).2.2.2.2.2.2.1), .int .i64 ((sp_zae y0 y1 y2 y3 y4 y5 y6 y7 y8 y9 y10 y11 y12 y13 y14 y15 y16 y17 a1_X a1_Y a1_W a1_H qab qac qx qw qy qz qaa qv a3).2.2.2.2.2.2.2.1), .int .i64 ((sp_zae y0 y1 y2 y3 y4 y5 y6 y7 y8 y9 y10 y11 y12 y13 y14 y15 y16 y17 a1_X a1_Y a1_W a1_H qab qac qx qw qy qz qaa qv a3).2.2.2.2.2.2.2.2.1), .int .i64 ((sp_zae y0 y1 y2 y3 y4 y5 y6 y7 y8 y9 y10 y11 y12 y13 y14 y15 y16 y17 a1_X a1_Y a1_W a1_H qab qac qx qw qy qz qaa qv a3).2.2.2.2.2.2.2.2.2.1), .int .i64 ((sp_zae y0 y1 y2 y3 y4 y5 y6 y7 y8 y9 y10 y11 y12 y13 y14 y15 y16 y17 a1_X a1_Y a1_W a1_H qab qac qx qw qy qz qaa qv a3).2.2.2.2.2.2.2.2.2.2.1), .int .i64 ((sp_zae y0 y1 y2 y3 y4 y5 y6 y7 y8 y9 y10 y11 y12 y13 y14 y15 y16 y17 a1_X a1_Y a1_W a1_H qab qac qx qw qy qz qaa qv a3).2.2.2.2.2.2.2.2.2.2.2.1), .int .i64 ((sp_zae y0 y1 y2 y3 y4 y5 y6 y7 y8 y9 y10 y11 y12 y13 y14 y15 y16 y17 a1_X a1_Y a1_W a1_H qab qac qx qw qy qz qaa qv a3).2.2.2.2.2.2.2.2.2.2.2.2.1), .int .i64 ((sp_zae y0 y1 y2 y3 y4 y5 y6 y7 y8 y9 y10 y11 y12 y13 y14 y15 y16 y17 a1_X a1_Y a1_W a1_H qab qac qx qw qy qz qaa qv a3).2.2.2.2.2.2.2.2.2.2.2.2.2.1), .int .i64 ((sp_zae y0 y1 y2 y3 y4 y5 y6 y7 y8 y9 y10 y11 y12 y13 y14 y15 y16 y17 a1_X a1_Y a1_W a1_H qab qac qx qw qy qz qaa qv a3).2.2.2.2.2.2.2.2.2.2.2.2.2.2.1), .int .i64 ((sp_zae y0 y1 y2 y3 y4 y5 y6 y7 y8 y9 y10 y11 y12 y13 y14 y15 y16 y17 a1_X a1_Y a1_W a1_H qab qac qx qw qy qz qaa qv a3).2.2.2.2.2.2.2.2.2.2.2.2.2.2.2.1), .int .i64 ((sp_zae y0 y1 y2 y3 y4 y5 y6 y7 y8 y9 y10 y11 y12 y13 y14 y15 y16 y17 a1_X a1_Y a1_W a1_H qab qac qx qw qy qz qaa qv a3).2.2.2.2.2.2.2.2.2.2.2.2.2.2.2.2.1), .int .i64 ((sp_zae y0 y1 y2 y3 y4 y5 y6 y7 y8 y9 y10 y11 y12 y13 y14 y15 y16 y17 a1_X a1_Y a1_W a1_H qab qac qx qw qy qz qaa qv a3).2.2.2.2.2.2.2.2.2.2.2.2.2.2.2.2.2)])
  | _ => none
def C_zae : Cfg UU := C_fh1.add 100 m_zae
theorem s_zae : SumOK C_zae := by
  refine s_fh1.addD mixed (fn := Tryz.f100) (c := bo Tryz.f100) Tryz.func100 (by kernel_rfl) (by kernel_rfl) ?_
  intro xs cs r h hc
  unfold m_zae at h
  split at h
  · rename_i y0 y1 y2 y3 y4 y5 y6 y7 y8 y9 y10 y11 y12 y13 y14 y15 y16 y17 a1_X a1_Y a1_W a1_H qab qac qx qw qy qz qaa qv a3
    cases h
    obtain ⟨F, hF⟩ := ok_zae y0 y1 y2 y3 y4 y5 y6 y7 y8 y9 y10 y11 y12 y13 y14 y15 y16 y17 a1_X a1_Y a1_W a1_H qab qac qx qw qy qz qaa qv a3
    refine ⟨by kernel_rfl, M_zae, F, false, ⟨?_⟩⟩
    rw [exec_zae]
    refine hF _ ?_
    rfl
  · cases h
def b_zak_0 (F n r : Nat) (S : ASt UU) (K : AEx → ASt UU → Prop) : Prop := iter (execG (inliner M_zak F 0 C_zae) C_zae Tryz.f188.ntmps M_zak F 0 (cL (cB (cS (cF (cS (bo Tryz.f188))))))) (M_zak 0 0) n r S K
def k_zak_0 (F : Nat) (Post : AVal UU → Prop) : AEx → ASt UU → Prop := kBlock 0 (kSeq (inliner M_zak F 0 C_zae) C_zae Tryz.f188.ntmps M_zak F 0 (cS (cS (bo Tryz.f188))) (AEnds C_zae false Tryz.f188 Post))
theorem step_zak_0 (F n r : Nat) (K : AEx → ASt UU → Prop) (t2 : Bool) (t14 t15 : Int) (l26 : List Int) : b_zak_0 F (n + 1) r (st_zak_0 t2 t14 t15 l26) K = g_zak_s0 (fun t2 t14 t15 l26 => b_zak_0 F n (r + 1) (st_zak_0 t2 t14 t15 l26) K) (fun t2 t14 t15 l26 => K .ret (st_zak_0 t2 t14 t15 l26)) (fun t2 t14 t15 l26 => K (.exit 0) (st_zak_0 t2 t14 t15 l26)) t2 t14 t15 l26 := by kernel_rfl
theorem cont_zak_0_0 (F : Nat) (Post : AVal UU → Prop) (t2 : Bool) (t14 t15 : Int) (l26 : List Int) : k_zak_0 F Post .ret (st_zak_0 t2 t14 t15 l26) = g_zak_c0_0 (fun r0 => Post (.bool r0)) t2 t14 t15 l26 := by kernel_rfl
theorem cont_zak_0_1 (F : Nat) (Post : AVal UU → Prop) (t2 : Bool) (t14 t15 : Int) (l26 : List Int) : k_zak_0 F Post (.exit 0) (st_zak_0 t2 t14 t15 l26) = g_zak_c0_1 (fun r0 => Post (.bool r0)) t2 t14 t15 l26 := by kernel_rfl
theorem entry_zak (F : Nat) (Post : AVal UU → Prop) (qf qe qh qg : Int) : exec C_zae Tryz.f188.ntmps M_zak F 0 (bo Tryz.f188) (initSt [.agg [.int .i64 qf, .int .i64 qe, .int .i64 qh, .int .i64 qg]]) (AEnds C_zae false Tryz.f188 Post) = g_zak_e qf qe qh qg (fun r0 => Post (.bool r0)) (fun t2 t14 t15 l26 => b_zak_0 F F 0 (st_zak_0 t2 t14 t15 l26) (k_zak_0 F Post)) := by kernel_rfl
theorem loop_zak_0 (F : Nat) (K : AEx → ASt UU → Prop) : ∀ (n r : Nat) (t2 : Bool) (t14 t15 : Int) (l26 : List Int), b_zak_0 F n r (st_zak_0 t2 t14 t15 l26) K = w_zak_0 F  (fun t2 t14 t15 l26 => K .ret (st_zak_0 t2 t14 t15 l26)) (fun t2 t14 t15 l26 => K (.exit 0) (st_zak_0 t2 t14 t15 l26)) n t2 t14 t15 l26 := by
  intro n
  induction n with
  | zero => intros; rfl
  | succ n ih =>
    intro r t2 t14 t15 l26
    have e : (fun t2 t14 t15 l26 => b_zak_0 F n (r + 1) (st_zak_0 t2 t14 t15 l26) K) = w_zak_0 F  (fun t2 t14 t15 l26 => K .ret (st_zak_0 t2 t14 t15 l26)) (fun t2 t14 t15 l26 => K (.exit 0) (st_zak_0 t2 t14 t15 l26)) n := by
      funext t2 t14 t15 l26
      exact ih (r + 1) t2 t14 t15 l26
    rw [step_zak_0, e]
    rfl
theorem nl_zak_0 (F : Nat) (Post : AVal UU → Prop) (t2 : Bool) (t14 t15 : Int) (l26 : List Int) : b_zak_0 F F 0 (st_zak_0 t2 t14 t15 l26) (k_zak_0 F Post) = n_zak_0 F (fun r0 => Post (.bool r0)) t2 t14 t15 l26 := by
  rw [loop_zak_0]
  have h0 : (fun t2 t14 t15 l26 => k_zak_0 F Post .ret (st_zak_0 t2 t14 t15 l26)) = (fun t2 t14 t15 l26 => g_zak_c0_0 (fun r0 => Post (.bool r0)) t2 t14 t15 l26) := by
    funext t2 t14 t15 l26
    rw [cont_zak_0_0]
  have h1 : (fun t2 t14 t15 l26 => k_zak_0 F Post (.exit 0) (st_zak_0 t2 t14 t15 l26)) = (fun t2 t14 t15 l26 => g_zak_c0_1 (fun r0 => Post (.bool r0)) t2 t14 t15 l26) := by
    funext t2 t14 t15 l26
    rw [cont_zak_0_1]
  rw [h0, h1]
  rfl
theorem exec_zak (F : Nat) (Post : AVal UU → Prop) (qf qe qh qg : Int) : exec C_zae Tryz.f188.ntmps M_zak F 0 (bo Tryz.f188) (initSt [.agg [.int .i64 qf, .int .i64 qe, .int .i64 qh, .int .i64 qg]]) (AEnds C_zae false Tryz.f188 Post) = w_zak F qf qe qh qg (fun r0 => Post (.bool r0)) := by
  rw [entry_zak]
  have e0 : (fun t2 t14 t15 l26 => b_zak_0 F F 0 (st_zak_0 t2 t14 t15 l26) (k_zak_0 F Post)) = (n_zak_0 F (fun r0 => Post (.bool r0))) := by
    funext t2 t14 t15 l26
    exact nl_zak_0 F Post t2 t14 t15 l26
  rw [e0]
  rfl
def m_zak : Model UU
  | [.agg [.int .i64 qf, .int .i64 qe, .int .i64 qh, .int .i64 qg]] => some ([], .bool (sp_zak qf qe qh qg))
  | _ => none
def C_zak : Cfg UU := C_zae.add 188 m_zak
theorem s_zak : SumOK C_zak := by
  refine s_zae.addD mixed (fn := Tryz.f188) (c := bo Tryz.f188) Tryz.func188 (by kernel_rfl) (by kernel_rfl) ?_
  intro xs cs r h hc
  unfold m_zak at h
  split at h
  · rename_i qf qe qh qg
    cases h
    obtain ⟨F, hF⟩ := ok_zak qf qe qh qg
    refine ⟨by kernel_rfl, M_zak, F, false, ⟨?_⟩⟩
    rw [exec_zak]
    refine hF _ ?_
    rfl
  · cases h
def b_zn_0 (F n r : Nat) (S : ASt UU) (K : AEx → ASt UU → Prop) : Prop := iter (execG (inliner M_zn F 0 C_zak) C_zak Tryz.f213.ntmps M_zn F 0 (cL (cB (cS (cF (cS (cS (bo Tryz.f213)))))))) (M_zn 0 0) n r S K
def k_zn_0 (F : Nat) (Post : AVal UU → Prop) : AEx → ASt UU → Prop := kBlock 0 (kSeq (inliner M_zn F 0 C_zak) C_zak Tryz.f213.ntmps M_zn F 0 (cS (cS (cS (bo Tryz.f213)))) (AEnds C_zak false Tryz.f213 Post))
theorem step_zn_0 (F n r : Nat) (K : AEx → ASt UU → Prop) (t0 : List Rect) (t2 t3 : Int) : b_zn_0 F (n + 1) r (st_zn_0 t0 t2 t3) K = g_zn_s0 (fun t0 t2 t3 => b_zn_0 F n (r + 1) (st_zn_0 t0 t2 t3) K) (fun t0 t2 t3 => K .ret (st_zn_0 t0 t2 t3)) (fun t0 t2 t3 => K (.exit 0) (st_zn_0 t0 t2 t3)) t0 t2 t3 := by kernel_rfl
theorem cont_zn_0_0 (F : Nat) (Post : AVal UU → Prop) (t0 : List Rect) (t2 t3 : Int) : k_zn_0 F Post .ret (st_zn_0 t0 t2 t3) = g_zn_c0_0 (fun r0 => Post (.int .i64 r0)) t0 t2 t3 := by kernel_rfl
theorem cont_zn_0_1 (F : Nat) (Post : AVal UU → Prop) (t0 : List Rect) (t2 t3 : Int) : k_zn_0 F Post (.exit 0) (st_zn_0 t0 t2 t3) = g_zn_c0_1 (fun r0 => Post (.int .i64 r0)) t0 t2 t3 := by kernel_rfl
theorem entry_zn (F : Nat) (Post : AVal UU → Prop) (a0 : List Rect) : exec C_zak Tryz.f213.ntmps M_zn F 0 (bo Tryz.f213) (initSt [.sl .rect a0]) (AEnds C_zak false Tryz.f213 Post) = g_zn_e a0 (fun r0 => Post (.int .i64 r0)) (fun t0 t2 t3 => b_zn_0 F F 0 (st_zn_0 t0 t2 t3) (k_zn_0 F Post)) := by kernel_rfl
theorem loop_zn_0 (F : Nat) (K : AEx → ASt UU → Prop) : ∀ (n r : Nat) (t0 : List Rect) (t2 t3 : Int), b_zn_0 F n r (st_zn_0 t0 t2 t3) K = w_zn_0 F  (fun t0 t2 t3 => K .ret (st_zn_0 t0 t2 t3)) (fun t0 t2 t3 => K (.exit 0) (st_zn_0 t0 t2 t3)) n t0 t2 t3 := by
  intro n
  induction n with
  | zero => intros; rfl
  | succ n ih =>
    intro r t0 t2 t3
    have e : (fun t0 t2 t3 => b_zn_0 F n (r + 1) (st_zn_0 t0 t2 t3) K) = w_zn_0 F  (fun t0 t2 t3 => K .ret (st_zn_0 t0 t2 t3)) (fun t0 t2 t3 => K (.exit 0) (st_zn_0 t0 t2 t3)) n := by
      funext t0 t2 t3
      exact ih (r + 1) t0 t2 t3
    rw [step_zn_0, e]
    rfl
theorem nl_zn_0 (F : Nat) (Post : AVal UU → Prop) (t0 : List Rect) (t2 t3 : Int) : b_zn_0 F F 0 (st_zn_0 t0 t2 t3) (k_zn_0 F Post) = n_zn_0 F (fun r0 => Post (.int .i64 r0)) t0 t2 t3 := by
  rw [loop_zn_0]
  have h0 : (fun t0 t2 t3 => k_zn_0 F Post .ret (st_zn_0 t0 t2 t3)) = (fun t0 t2 t3 => g_zn_c0_0 (fun r0 => Post (.int .i64 r0)) t0 t2 t3) := by
    funext t0 t2 t3
    rw [cont_zn_0_0]
  have h1 : (fun t0 t2 t3 => k_zn_0 F Post (.exit 0) (st_zn_0 t0 t2 t3)) = (fun t0 t2 t3 => g_zn_c0_1 (fun r0 => Post (.int .i64 r0)) t0 t2 t3) := by
    funext t0 t2 t3
    rw [cont_zn_0_1]
  rw [h0, h1]
  rfl
theorem exec_zn (F : Nat) (Post : AVal UU → Prop) (a0 : List Rect) : exec C_zak Tryz.f213.ntmps M_zn F 0 (bo Tryz.f213) (initSt [.sl .rect a0]) (AEnds C_zak false Tryz.f213 Post) = w_zn F a0 (fun r0 => Post (.int .i64 r0)) := by
  rw [entry_zn]
  have e0 : (fun t0 t2 t3 => b_zn_0 F F 0 (st_zn_0 t0 t2 t3) (k_zn_0 F Post)) = (n_zn_0 F (fun r0 => Post (.int .i64 r0))) := by
    funext t0 t2 t3
    exact nl_zn_0 F Post t0 t2 t3
  rw [e0]
  rfl
def m_zn : Model UU
  | [.sl .rect a0] => some ([], .int .i64 (sp_zn a0))
  | _ => none
def C_zn : Cfg UU := C_zak.add 213 m_zn
theorem s_zn : SumOK C_zn := by
  refine s_zak.addD mixed (fn := Tryz.f213) (c := bo Tryz.f213) Tryz.func213 (by kernel_rfl) (by kernel_rfl) ?_
  intro xs cs r h hc
  unfold m_zn at h
  split at h
  · rename_i a0
    cases h
    obtain ⟨F, hF⟩ := ok_zn a0
    refine ⟨by kernel_rfl, M_zn, F, false, ⟨?_⟩⟩
    rw [exec_zn]
    refine hF _ ?_
    rfl
  · cases h
def b_zbd_0 (F n r : Nat) (S : ASt UU) (K : AEx → ASt UU → Prop) : Prop := iter (execG (inliner M_zbd F 0 C_zn) C_zn Tryz.f145.ntmps M_zbd F 0 (cL (cB (cS (cF (cS (cS (bo Tryz.f145)))))))) (M_zbd 0 0) n r S K
def k_zbd_0 (F : Nat) (Post : AVal UU → Prop) : AEx → ASt UU → Prop := kBlock 0 (kSeq (inliner M_zbd F 0 C_zn) C_zn Tryz.f145.ntmps M_zbd F 0 (cS (cS (cS (bo Tryz.f145)))) (AEnds C_zn false Tryz.f145 Post))
theorem step_zbd_0 (F n r : Nat) (K : AEx → ASt UU → Prop) (t12 : List Rect) (t13 t14 c2_0 c2_1 c2_2 c2_3 c3_0 c3_1 c3_2 c3_3 : Int) : b_zbd_0 F (n + 1) r (st_zbd_0 t12 t13 t14 c2_0 c2_1 c2_2 c2_3 c3_0 c3_1 c3_2 c3_3) K = g_zbd_s0 (fun t12 t13 t14 c2_0 c2_1 c2_2 c2_3 c3_0 c3_1 c3_2 c3_3 => b_zbd_0 F n (r + 1) (st_zbd_0 t12 t13 t14 c2_0 c2_1 c2_2 c2_3 c3_0 c3_1 c3_2 c3_3) K) (fun t12 t13 t14 c2_0 c2_1 c2_2 c2_3 c3_0 c3_1 c3_2 c3_3 => K (.exit 0) (st_zbd_0 t12 t13 t14 c2_0 c2_1 c2_2 c2_3 c3_0 c3_1 c3_2 c3_3)) t12 t13 t14 c2_0 c2_1 c2_2 c2_3 c3_0 c3_1 c3_2 c3_3 := by kernel_rfl
theorem cont_zbd_0_0 (F : Nat) (Post : AVal UU → Prop) (t12 : List Rect) (t13 t14 c2_0 c2_1 c2_2 c2_3 c3_0 c3_1 c3_2 c3_3 : Int) : k_zbd_0 F Post (.exit 0) (st_zbd_0 t12 t13 t14 c2_0 c2_1 c2_2 c2_3 c3_0 c3_1 c3_2 c3_3) = g_zbd_c0_0 (fun r0_X r0_Y r0_W r0_H => Post (.agg [.int .i64 r0_X, .int .i64 r0_Y, .int .i64 r0_W, .int .i64 r0_H])) t12 t13 t14 c2_0 c2_1 c2_2 c2_3 c3_0 c3_1 c3_2 c3_3 := by kernel_rfl
theorem entry_zbd (F : Nat) (Post : AVal UU → Prop) (a0 : List Rect) : exec C_zn Tryz.f145.ntmps M_zbd F 0 (bo Tryz.f145) (initSt [.sl .rect a0]) (AEnds C_zn false Tryz.f145 Post) = g_zbd_e a0 (fun r0_X r0_Y r0_W r0_H => Post (.agg [.int .i64 r0_X, .int .i64 r0_Y, .int .i64 r0_W, .int .i64 r0_H])) (fun t12 t13 t14 c2_0 c2_1 c2_2 c2_3 c3_0 c3_1 c3_2 c3_3 => b_zbd_0 F F 0 (st_zbd_0 t12 t13 t14 c2_0 c2_1 c2_2 c2_3 c3_0 c3_1 c3_2 c3_3) (k_zbd_0 F Post)) := by kernel_rfl
theorem loop_zbd_0 (F : Nat) (K : AEx → ASt UU → Prop) : ∀ (n r : Nat) (t12 : List Rect) (t13 t14 c2_0 c2_1 c2_2 c2_3 c3_0 c3_1 c3_2 c3_3 : Int), b_zbd_0 F n r (st_zbd_0 t12 t13 t14 c2_0 c2_1 c2_2 c2_3 c3_0 c3_1 c3_2 c3_3) K = w_zbd_0 F  (fun t12 t13 t14 c2_0 c2_1 c2_2 c2_3 c3_0 c3_1 c3_2 c3_3 => K (.exit 0) (st_zbd_0 t12 t13 t14 c2_0 c2_1 c2_2 c2_3 c3_0 c3_1 c3_2 c3_3)) n t12 t13 t14 c2_0 c2_1 c2_2 c2_3 c3_0 c3_1 c3_2 c3_3 := by
  intro n
  induction n with
  | zero => intros; rfl
  | succ n ih =>
    intro r t12 t13 t14 c2_0 c2_1 c2_2 c2_3 c3_0 c3_1 c3_2 c3_3
    have e : (fun t12 t13 t14 c2_0 c2_1 c2_2 c2_3 c3_0 c3_1 c3_2 c3_3 => b_zbd_0 F n (r + 1) (st_zbd_0 t12 t13 t14 c2_0 c2_1 c2_2 c2_3 c3_0 c3_1 c3_2 c3_3) K) = w_zbd_0 F  (fun t12 t13 t14 c2_0 c2_1 c2_2 c2_3 c3_0 c3_1 c3_2 c3_3 => K (.exit 0) (st_zbd_0 t12 t13 t14 c2_0 c2_1 c2_2 c2_3 c3_0 c3_1 c3_2 c3_3)) n := by
      funext t12 t13 t14 c2_0 c2_1 c2_2 c2_3 c3_0 c3_1 c3_2 c3_3
      exact ih (r + 1) t12 t13 t14 c2_0 c2_1 c2_2 c2_3 c3_0 c3_1 c3_2 c3_3
    rw [step_zbd_0, e]
    rfl
theorem nl_zbd_0 (F : Nat) (Post : AVal UU → Prop) (t12 : List Rect) (t13 t14 c2_0 c2_1 c2_2 c2_3 c3_0 c3_1 c3_2 c3_3 : Int) : b_zbd_0 F F 0 (st_zbd_0 t12 t13 t14 c2_0 c2_1 c2_2 c2_3 c3_0 c3_1 c3_2 c3_3) (k_zbd_0 F Post) = n_zbd_0 F (fun r0_X r0_Y r0_W r0_H => Post (.agg [.int .i64 r0_X, .int .i64 r0_Y, .int .i64 r0_W, .int .i64 r0_H])) t12 t13 t14 c2_0 c2_1 c2_2 c2_3 c3_0 c3_1 c3_2 c3_3 := by
  rw [loop_zbd_0]
  have h0 : (fun t12 t13 t14 c2_0 c2_1 c2_2 c2_3 c3_0 c3_1 c3_2 c3_3 => k_zbd_0 F Post (.exit 0) (st_zbd_0 t12 t13 t14 c2_0 c2_1 c2_2 c2_3 c3_0 c3_1 c3_2 c3_3)) = (fun t12 t13 t14 c2_0 c2_1 c2_2 c2_3 c3_0 c3_1 c3_2 c3_3 => g_zbd_c0_0 (fun r0_X r0_Y r0_W r0_H => Post (.agg [.int .i64 r0_X, .int .i64 r0_Y, .int .i64 r0_W, .int .i64 r0_H])) t12 t13 t14 c2_0 c2_1 c2_2 c2_3 c3_0 c3_1 c3_2 c3_3) := by
    funext t12 t13 t14 c2_0 c2_1 c2_2 c2_3 c3_0 c3_1 c3_2 c3_3
    rw [cont_zbd_0_0]
  rw [h0]
  rfl
theorem exec_zbd (F : Nat) (Post : AVal UU → Prop) (a0 : List Rect) : exec C_zn Tryz.f145.ntmps M_zbd F 0 (bo Tryz.f145) (initSt [.sl .rect a0]) (AEnds C_zn false Tryz.f145 Post) = w_zbd F a0 (fun r0_X r0_Y r0_W r0_H => Post (.agg [.int .i64 r0_X, .int .i64 r0_Y, .int .i64 r0_W, .int .i64 r0_H])) := by
  rw [entry_zbd]
  have e0 : (fun t12 t13 t14 c2_0 c2_1 c2_2 c2_3 c3_0 c3_1 c3_2 c3_3 => b_zbd_0 F F 0 (st_zbd_0 t12 t13 t14 c2_0 c2_1 c2_2 c2_3 c3_0 c3_1 c3_2 c3_3) (k_zbd_0 F Post)) = (n_zbd_0 F (fun r0_X r0_Y r0_W r0_H => Post (.agg [.int .i64 r0_X, .int .i64 r0_Y, .int .i64 r0_W, .int .i64 r0_H]))) := by
    funext t12 t13 t14 c2_0 c2_1 c2_2 c2_3 c3_0 c3_1 c3_2 c3_3
    exact nl_zbd_0 F Post t12 t13 t14 c2_0 c2_1 c2_2 c2_3 c3_0 c3_1 c3_2 c3_3
  rw [e0]
  rfl
def m_zbd : Model UU
  | [.sl .rect a0] => some ([pre_zbd a0], .agg [.int .i64 ((sp_zbd a0).1), .int .i64 ((sp_zbd a0).2.1), .int .i64 ((sp_zbd a0).2.2.1), .int .i64 ((sp_zbd a0).2.2.2)])
  | _ => none
def C_zbd : Cfg UU := C_zn.add 145 m_zbd
theorem s_zbd : SumOK C_zbd := by
  refine s_zn.addD mixed (fn := Tryz.f145) (c := bo Tryz.f145) Tryz.func145 (by kernel_rfl) (by kernel_rfl) ?_
  intro xs cs r h hc
  unfold m_zbd at h
  split at h
  · rename_i a0
    cases h
    obtain ⟨F, hF⟩ := ok_zbd a0 hc
    refine ⟨by kernel_rfl, M_zbd, F, false, ⟨?_⟩⟩
    rw [exec_zbd]
    refine hF _ ?_
    rfl
  · cases h
def b_zaj_0 (F n r : Nat) (S : ASt UU) (K : AEx → ASt UU → Prop) : Prop := iter (execG (inliner M_zaj F 0 C_zbd) C_zbd Tryz.f151.ntmps M_zaj F 0 (cL (cB (cS (cF (cS (cS (bo Tryz.f151)))))))) (M_zaj 0 0) n r S K
def k_zaj_0 (F : Nat) (Post : AVal UU → Prop) : AEx → ASt UU → Prop := kBlock 0 (kSeq (inliner M_zaj F 0 C_zbd) C_zbd Tryz.f151.ntmps M_zaj F 0 (cS (cS (cS (bo Tryz.f151)))) (AEnds C_zbd false Tryz.f151 Post))
theorem step_zaj_0 (F n r : Nat) (K : AEx → ASt UU → Prop) (t0 : List Rect) (t3 t4 t5 t6 t7 c2_0 c2_1 c2_2 c2_3 : Int) : b_zaj_0 F (n + 1) r (st_zaj_0 t0 t3 t4 t5 t6 t7 c2_0 c2_1 c2_2 c2_3) K = g_zaj_s0 (fun t0 t3 t4 t5 t6 t7 c2_0 c2_1 c2_2 c2_3 => b_zaj_0 F n (r + 1) (st_zaj_0 t0 t3 t4 t5 t6 t7 c2_0 c2_1 c2_2 c2_3) K) (fun t0 t3 t4 t5 t6 t7 c2_0 c2_1 c2_2 c2_3 => K (.exit 0) (st_zaj_0 t0 t3 t4 t5 t6 t7 c2_0 c2_1 c2_2 c2_3)) t0 t3 t4 t5 t6 t7 c2_0 c2_1 c2_2 c2_3 := by kernel_rfl
theorem cont_zaj_0_0 (F : Nat) (Post : AVal UU → Prop) (t0 : List Rect) (t3 t4 t5 t6 t7 c2_0 c2_1 c2_2 c2_3 : Int) : k_zaj_0 F Post (.exit 0) (st_zaj_0 t0 t3 t4 t5 t6 t7 c2_0 c2_1 c2_2 c2_3) = g_zaj_c0_0 (fun r0_X r0_Y r0_W r0_H => Post (.agg [.int .i64 r0_X, .int .i64 r0_Y, .int .i64 r0_W, .int .i64 r0_H])) t0 t3 t4 t5 t6 t7 c2_0 c2_1 c2_2 c2_3 := by kernel_rfl
theorem entry_zaj (F : Nat) (Post : AVal UU → Prop) (a0 : List Rect) : exec C_zbd Tryz.f151.ntmps M_zaj F 0 (bo Tryz.f151) (initSt [.sl .rect a0]) (AEnds C_zbd false Tryz.f151 Post) = g_zaj_e a0 (fun r0_X r0_Y r0_W r0_H => Post (.agg [.int .i64 r0_X, .int .i64 r0_Y, .int .i64 r0_W, .int .i64 r0_H])) (fun t0 t3 t4 t5 t6 t7 c2_0 c2_1 c2_2 c2_3 => b_zaj_0 F F 0 (st_zaj_0 t0 t3 t4 t5 t6 t7 c2_0 c2_1 c2_2 c2_3) (k_zaj_0 F Post)) := by kernel_rfl
theorem loop_zaj_0 (F : Nat) (K : AEx → ASt UU → Prop) : ∀ (n r : Nat) (t0 : List Rect) (t3 t4 t5 t6 t7 c2_0 c2_1 c2_2 c2_3 : Int), b_zaj_0 F n r (st_zaj_0 t0 t3 t4 t5 t6 t7 c2_0 c2_1 c2_2 c2_3) K = w_zaj_0 F  (fun t0 t3 t4 t5 t6 t7 c2_0 c2_1 c2_2 c2_3 => K (.exit 0) (st_zaj_0 t0 t3 t4 t5 t6 t7 c2_0 c2_1 c2_2 c2_3)) n t0 t3 t4 t5 t6 t7 c2_0 c2_1 c2_2 c2_3 := by
  intro n
  induction n with
  | zero => intros; rfl
  | succ n ih =>
    intro r t0 t3 t4 t5 t6 t7 c2_0 c2_1 c2_2 c2_3
    have e : (fun t0 t3 t4 t5 t6 t7 c2_0 c2_1 c2_2 c2_3 => b_zaj_0 F n (r + 1) (st_zaj_0 t0 t3 t4 t5 t6 t7 c2_0 c2_1 c2_2 c2_3) K) = w_zaj_0 F  (fun t0 t3 t4 t5 t6 t7 c2_0 c2_1 c2_2 c2_3 => K (.exit 0) (st_zaj_0 t0 t3 t4 t5 t6 t7 c2_0 c2_1 c2_2 c2_3)) n := by
      funext t0 t3 t4 t5 t6 t7 c2_0 c2_1 c2_2 c2_3
      exact ih (r + 1) t0 t3 t4 t5 t6 t7 c2_0 c2_1 c2_2 c2_3
    rw [step_zaj_0, e]
    rfl
theorem nl_zaj_0 (F : Nat) (Post : AVal UU → Prop) (t0 : List Rect) (t3 t4 t5 t6 t7 c2_0 c2_1 c2_2 c2_3 : Int) : b_zaj_0 F F 0 (st_zaj_0 t0 t3 t4 t5 t6 t7 c2_0 c2_1 c2_2 c2_3) (k_zaj_0 F Post) = n_zaj_0 F (fun r0_X r0_Y r0_W r0_H => Post (.agg [.int .i64 r0_X, .int .i64 r0_Y, .int .i64 r0_W, .int .i64 r0_H])) t0 t3 t4 t5 t6 t7 c2_0 c2_1 c2_2 c2_3 := by
  rw [loop_zaj_0]
  have h0 : (fun t0 t3 t4 t5 t6 t7 c2_0 c2_1 c2_2 c2_3 => k_zaj_0 F Post (.exit 0) (st_zaj_0 t0 t3 t4 t5 t6 t7 c2_0 c2_1 c2_2 c2_3)) = (fun t0 t3 t4 t5 t6 t7 c2_0 c2_1 c2_2 c2_3 => g_zaj_c0_0 (fun r0_X r0_Y r0_W r0_H => Post (.agg [.int .i64 r0_X, .int .i64 r0_Y, .int .i64 r0_W, .int .i64 r0_H])) t0 t3 t4 t5 t6 t7 c2_0 c2_1 c2_2 c2_3) := by
    funext t0 t3 t4 t5 t6 t7 c2_0 c2_1 c2_2 c2_3
    rw [cont_zaj_0_0]
  rw [h0]
  rfl
theorem exec_zaj (F : Nat) (Post : AVal UU → Prop) (a0 : List Rect) : exec C_zbd Tryz.f151.ntmps M_zaj F 0 (bo Tryz.f151) (initSt [.sl .rect a0]) (AEnds C_zbd false Tryz.f151 Post) = w_zaj F a0 (fun r0_X r0_Y r0_W r0_H => Post (.agg [.int .i64 r0_X, .int .i64 r0_Y, .int .i64 r0_W, .int .i64 r0_H])) := by
  rw [entry_zaj]
  have e0 : (fun t0 t3 t4 t5 t6 t7 c2_0 c2_1 c2_2 c2_3 => b_zaj_0 F F 0 (st_zaj_0 t0 t3 t4 t5 t6 t7 c2_0 c2_1 c2_2 c2_3) (k_zaj_0 F Post)) = (n_zaj_0 F (fun r0_X r0_Y r0_W r0_H => Post (.agg [.int .i64 r0_X, .int .i64 r0_Y, .int .i64 r0_W, .int .i64 r0_H]))) := by
    funext t0 t3 t4 t5 t6 t7 c2_0 c2_1 c2_2 c2_3
    exact nl_zaj_0 F Post t0 t3 t4 t5 t6 t7 c2_0 c2_1 c2_2 c2_3
  rw [e0]
  rfl
def m_zaj : Model UU
  | [.sl .rect a0] => some ([pre_zaj a0], .agg [.int .i64 ((sp_zaj a0).1), .int .i64 ((sp_zaj a0).2.1), .int .i64 ((sp_zaj a0).2.2.1), .int .i64 ((sp_zaj a0).2.2.2)])
  | _ => none
def C_zaj : Cfg UU := C_zbd.add 151 m_zaj
theorem s_zaj : SumOK C_zaj := by
  refine s_zbd.addD mixed (fn := Tryz.f151) (c := bo Tryz.f151) Tryz.func151 (by kernel_rfl) (by kernel_rfl) ?_
  intro xs cs r h hc
  unfold m_zaj at h
  split at h
  · rename_i a0
    cases h
    obtain ⟨F, hF⟩ := ok_zaj a0 hc
    refine ⟨by kernel_rfl, M_zaj, F, false, ⟨?_⟩⟩
    rw [exec_zaj]
    refine hF _ ?_
    rfl
  · cases h
def b_zbv_0 (F n r : Nat) (S : ASt UU) (K : AEx → ASt UU → Prop) : Prop := iter (execG (inliner M_zbv F 0 C_zaj) C_zaj Tryz.f146.ntmps M_zbv F 0 (cL (cB (cS (cF (cS (bo Tryz.f146))))))) (M_zbv 0 0) n r S K
def k_zbv_0 (F : Nat) (Post : AVal UU → Prop) : AEx → ASt UU → Prop := kBlock 0 (kSeq (inliner M_zbv F 0 C_zaj) C_zaj Tryz.f146.ntmps M_zbv F 0 (cS (cS (bo Tryz.f146))) (AEnds C_zaj false Tryz.f146 Post))
theorem step_zbv_0 (F n r : Nat) (K : AEx → ASt UU → Prop) (t0 : List Int) (t1 t4 t7 t8 : Int) : b_zbv_0 F (n + 1) r (st_zbv_0 t0 t1 t4 t7 t8) K = g_zbv_s0 (fun t0 t1 t4 t7 t8 => b_zbv_0 F n (r + 1) (st_zbv_0 t0 t1 t4 t7 t8) K) (fun t0 t1 t4 t7 t8 => K .ret (st_zbv_0 t0 t1 t4 t7 t8)) (fun t0 t1 t4 t7 t8 => K (.exit 0) (st_zbv_0 t0 t1 t4 t7 t8)) t0 t1 t4 t7 t8 := by kernel_rfl
theorem cont_zbv_0_0 (F : Nat) (Post : AVal UU → Prop) (t0 : List Int) (t1 t4 t7 t8 : Int) : k_zbv_0 F Post .ret (st_zbv_0 t0 t1 t4 t7 t8) = g_zbv_c0_0 (fun r0 => Post (.int .i64 r0)) t0 t1 t4 t7 t8 := by kernel_rfl
theorem cont_zbv_0_1 (F : Nat) (Post : AVal UU → Prop) (t0 : List Int) (t1 t4 t7 t8 : Int) : k_zbv_0 F Post (.exit 0) (st_zbv_0 t0 t1 t4 t7 t8) = g_zbv_c0_1 (fun r0 => Post (.int .i64 r0)) t0 t1 t4 t7 t8 := by kernel_rfl
theorem entry_zbv (F : Nat) (Post : AVal UU → Prop) (a0 : List Int) (a1 : Int) : exec C_zaj Tryz.f146.ntmps M_zbv F 0 (bo Tryz.f146) (initSt [.sl .int a0, .int .i64 a1]) (AEnds C_zaj false Tryz.f146 Post) = g_zbv_e a0 a1 (fun r0 => Post (.int .i64 r0)) (fun t0 t1 t4 t7 t8 => b_zbv_0 F F 0 (st_zbv_0 t0 t1 t4 t7 t8) (k_zbv_0 F Post)) := by kernel_rfl
theorem loop_zbv_0 (F : Nat) (K : AEx → ASt UU → Prop) : ∀ (n r : Nat) (t0 : List Int) (t1 t4 t7 t8 : Int), b_zbv_0 F n r (st_zbv_0 t0 t1 t4 t7 t8) K = w_zbv_0 F  (fun t0 t1 t4 t7 t8 => K .ret (st_zbv_0 t0 t1 t4 t7 t8)) (fun t0 t1 t4 t7 t8 => K (.exit 0) (st_zbv_0 t0 t1 t4 t7 t8)) n t0 t1 t4 t7 t8 := by
  intro n
  induction n with
  | zero => intros; rfl
  | succ n ih =>
    intro r t0 t1 t4 t7 t8
    have e : (fun t0 t1 t4 t7 t8 => b_zbv_0 F n (r + 1) (st_zbv_0 t0 t1 t4 t7 t8) K) = w_zbv_0 F  (fun t0 t1 t4 t7 t8 => K .ret (st_zbv_0 t0 t1 t4 t7 t8)) (fun t0 t1 t4 t7 t8 => K (.exit 0) (st_zbv_0 t0 t1 t4 t7 t8)) n := by
      funext t0 t1 t4 t7 t8
      exact ih (r + 1) t0 t1 t4 t7 t8
    rw [step_zbv_0, e]
    rfl
theorem nl_zbv_0 (F : Nat) (Post : AVal UU → Prop) (t0 : List Int) (t1 t4 t7 t8 : Int) : b_zbv_0 F F 0 (st_zbv_0 t0 t1 t4 t7 t8) (k_zbv_0 F Post) = n_zbv_0 F (fun r0 => Post (.int .i64 r0)) t0 t1 t4 t7 t8 := by
  rw [loop_zbv_0]
  have h0 : (fun t0 t1 t4 t7 t8 => k_zbv_0 F Post .ret (st_zbv_0 t0 t1 t4 t7 t8)) = (fun t0 t1 t4 t7 t8 => g_zbv_c0_0 (fun r0 => Post (.int .i64 r0)) t0 t1 t4 t7 t8) := by
    funext t0 t1 t4 t7 t8
    rw [cont_zbv_0_0]
  have h1 : (fun t0 t1 t4 t7 t8 => k_zbv_0 F Post (.exit 0) (st_zbv_0 t0 t1 t4 t7 t8)) = (fun t0 t1 t4 t7 t8 => g_zbv_c0_1 (fun r0 => Post (.int .i64 r0)) t0 t1 t4 t7 t8) := by
    funext t0 t1 t4 t7 t8
    rw [cont_zbv_0_1]
  rw [h0, h1]
  rfl
theorem exec_zbv (F : Nat) (Post : AVal UU → Prop) (a0 : List Int) (a1 : Int) : exec C_zaj Tryz.f146.ntmps M_zbv F 0 (bo Tryz.f146) (initSt [.sl .int a0, .int .i64 a1]) (AEnds C_zaj false Tryz.f146 Post) = w_zbv F a0 a1 (fun r0 => Post (.int .i64 r0)) := by
  rw [entry_zbv]
  have e0 : (fun t0 t1 t4 t7 t8 => b_zbv_0 F F 0 (st_zbv_0 t0 t1 t4 t7 t8) (k_zbv_0 F Post)) = (n_zbv_0 F (fun r0 => Post (.int .i64 r0))) := by
    funext t0 t1 t4 t7 t8
    exact nl_zbv_0 F Post t0 t1 t4 t7 t8
  rw [e0]
  rfl
def m_zbv : Model UU
  | [.sl .int a0, .int .i64 a1] => some ([pre_zbv a0 a1], .int .i64 (sp_zbv a0 a1))
  | _ => none
def C_zbv : Cfg UU := C_zaj.add 146 m_zbv
theorem s_zbv : SumOK C_zbv := by
  refine s_zaj.addD mixed (fn := Tryz.f146) (c := bo Tryz.f146) Tryz.func146 (by kernel_rfl) (by kernel_rfl) ?_
  intro xs cs r h hc
  unfold m_zbv at h
  split at h
  · rename_i a0 a1
    cases h
    obtain ⟨F, hF⟩ := ok_zbv a0 a1 hc
    refine ⟨by kernel_rfl, M_zbv, F, false, ⟨?_⟩⟩
    rw [exec_zbv]
    refine hF _ ?_
    rfl
  · cases h
end
end Go.Proofs.YteffpgliiilnjaaGreatDoor
namespace Go.Proofs.YteffpgliiilnjaaGreatDoor
open Go.Vm Go.RowKit
set_option linter.unusedVariables false
set_option maxRecDepth 100000
noncomputable section
theorem entry_zah (F : Nat) (Post : AVal UU → Prop) (a0 : List Rect) : exec C_zbv Tryz.f190.ntmps M_zah F 0 (bo Tryz.f190) (initSt [.sl .rect a0]) (AEnds C_zbv false Tryz.f190 Post) = g_zah_e a0 (fun r0 => Post (.bool r0)) := by kernel_rfl
theorem exec_zah (F : Nat) (Post : AVal UU → Prop) (a0 : List Rect) : exec C_zbv Tryz.f190.ntmps M_zah F 0 (bo Tryz.f190) (initSt [.sl .rect a0]) (AEnds C_zbv false Tryz.f190 Post) = w_zah F a0 (fun r0 => Post (.bool r0)) := by
  rw [entry_zah]
  rfl
def m_zah : Model UU
  | [.sl .rect a0] => some ([], .bool (sp_zah a0))
  | _ => none
def C_zah : Cfg UU := C_zbv.add 190 m_zah
theorem s_zah : SumOK C_zah := by
  refine s_zbv.addD mixed (fn := Tryz.f190) (c := bo Tryz.f190) Tryz.func190 (by kernel_rfl) (by kernel_rfl) ?_
  intro xs cs r h hc
  unfold m_zah at h
  split at h
  · rename_i a0
    cases h
    obtain ⟨F, hF⟩ := ok_zah a0
    refine ⟨by kernel_rfl, M_zah, F, false, ⟨?_⟩⟩
    rw [exec_zah]
    refine hF _ ?_
    rfl
  · cases h
theorem entry_zbw (F : Nat) (Post : AVal UU → Prop) (a0 : List Int) (a1 : Int) : exec C_zah Tryz.f97.ntmps M_zbw F 0 (bo Tryz.f97) (initSt [.sl .int a0, .int .i64 a1]) (AEnds C_zah false Tryz.f97 Post) = g_zbw_e a0 a1 (fun r0 => Post (.bool r0)) := by kernel_rfl
theorem exec_zbw (F : Nat) (Post : AVal UU → Prop) (a0 : List Int) (a1 : Int) : exec C_zah Tryz.f97.ntmps M_zbw F 0 (bo Tryz.f97) (initSt [.sl .int a0, .int .i64 a1]) (AEnds C_zah false Tryz.f97 Post) = w_zbw F a0 a1 (fun r0 => Post (.bool r0)) := by
  rw [entry_zbw]
  rfl
def m_zbw : Model UU
  | [.sl .int a0, .int .i64 a1] => some ([pre_zbw a0 a1], .bool (sp_zbw a0 a1))
  | _ => none
def C_zbw : Cfg UU := C_zah.add 97 m_zbw
theorem s_zbw : SumOK C_zbw := by
  refine s_zah.addD mixed (fn := Tryz.f97) (c := bo Tryz.f97) Tryz.func97 (by kernel_rfl) (by kernel_rfl) ?_
  intro xs cs r h hc
  unfold m_zbw at h
  split at h
  · rename_i a0 a1
    cases h
    obtain ⟨F, hF⟩ := ok_zbw a0 a1 hc
    refine ⟨by kernel_rfl, M_zbw, F, false, ⟨?_⟩⟩
    rw [exec_zbw]
    refine hF _ ?_
    rfl
  · cases h
end
end Go.Proofs.YteffpgliiilnjaaGreatDoor
namespace Go.Proofs.YteffpgliiilnjaaGreatDoor
open Go.Vm Go.RowKit
set_option linter.unusedVariables false
set_option maxRecDepth 100000
noncomputable section
def b_zbo_0 (F n r : Nat) (S : ASt UU) (K : AEx → ASt UU → Prop) : Prop := iter (execG (inliner M_zbo F 0 C_zbw) C_zbw Tryz.f144.ntmps M_zbo F 0 (cL (cB (cS (cF (cS (cS (bo Tryz.f144)))))))) (M_zbo 0 0) n r S K
def b_zbo_1 (F n r : Nat) (S : ASt UU) (K : AEx → ASt UU → Prop) : Prop := iter (execG (inliner M_zbo F 0 C_zbw) C_zbw Tryz.f144.ntmps M_zbo F 2 (cL (cB (cS (cS (cS (cB (cF (cS (cS (cL (cB (cS (cF (cS (cS (bo Tryz.f144))))))))))))))))) (M_zbo 0 2) n r S K
def b_zbo_2 (F n r : Nat) (S : ASt UU) (K : AEx → ASt UU → Prop) : Prop := iter (execG (inliner M_zbo F 0 C_zbw) C_zbw Tryz.f144.ntmps M_zbo F 4 (cL (cB (cS (cF (cS (cS (cS (bo Tryz.f144))))))))) (M_zbo 0 4) n r S K
def k_zbo_0 (F : Nat) (Post : AVal UU → Prop) : AEx → ASt UU → Prop := kBlock 0 (kSeq (inliner M_zbo F 0 C_zbw) C_zbw Tryz.f144.ntmps M_zbo F 0 (cS (cS (cS (bo Tryz.f144)))) (AEnds C_zbw false Tryz.f144 Post))
def k_zbo_1 (F n r : Nat) (K : AEx → ASt UU → Prop) : AEx → ASt UU → Prop := kBlock 2 (kBlock 1 (kSeq (inliner M_zbo F 0 C_zbw) C_zbw Tryz.f144.ntmps M_zbo F 0 (cS (cS (cS (cL (cB (cS (cF (cS (cS (bo Tryz.f144)))))))))) (kIter (execG (inliner M_zbo F 0 C_zbw) C_zbw Tryz.f144.ntmps M_zbo F 0 (cL (cB (cS (cF (cS (cS (bo Tryz.f144)))))))) (M_zbo 0 0) n r K)))
def k_zbo_2 (F : Nat) (Post : AVal UU → Prop) : AEx → ASt UU → Prop := kBlock 4 (kSeq (inliner M_zbo F 0 C_zbw) C_zbw Tryz.f144.ntmps M_zbo F 0 (cS (cS (cS (cS (bo Tryz.f144))))) (AEnds C_zbw false Tryz.f144 Post))
theorem step_zbo_0 (F n r : Nat) (K : AEx → ASt UU → Prop) (t2 : Int) (t19 : List (List Rect)) (t20 t21 : Int) (c1_0 c1_1 c1_2 : List Rect) (c1_3 : List Bend) : b_zbo_0 F (n + 1) r (st_zbo_0 t2 t19 t20 t21 c1_0 c1_1 c1_2 c1_3) K = g_zbo_s0 (fun t2 t19 t20 t21 c1_0 c1_1 c1_2 c1_3 => b_zbo_0 F n (r + 1) (st_zbo_0 t2 t19 t20 t21 c1_0 c1_1 c1_2 c1_3) K) (fun t2 t19 t20 t21 c1_0 c1_1 c1_2 c1_3 => K .ret (st_zbo_0 t2 t19 t20 t21 c1_0 c1_1 c1_2 c1_3)) (fun t2 t19 t20 t21 c1_0 c1_1 c1_2 c1_3 => K (.exit 0) (st_zbo_0 t2 t19 t20 t21 c1_0 c1_1 c1_2 c1_3)) t2 t19 t20 t21 c1_0 c1_1 c1_2 c1_3 (fun t2 t19 t20 t21 t28 t29 t30 c1_0 c1_1 c1_2 c1_3 => b_zbo_1 F F 0 (st_zbo_1 t2 t19 t20 t21 t28 t29 t30 c1_0 c1_1 c1_2 c1_3) (k_zbo_1 F n r K)) := by kernel_rfl
theorem cont_zbo_0_0 (F : Nat) (Post : AVal UU → Prop) (t2 : Int) (t19 : List (List Rect)) (t20 t21 : Int) (c1_0 c1_1 c1_2 : List Rect) (c1_3 : List Bend) : k_zbo_0 F Post .ret (st_zbo_0 t2 t19 t20 t21 c1_0 c1_1 c1_2 c1_3) = g_zbo_c0_0 (fun r0 => Post (.int .i64 r0)) t2 t19 t20 t21 c1_0 c1_1 c1_2 c1_3 := by kernel_rfl
theorem cont_zbo_0_1 (F : Nat) (Post : AVal UU → Prop) (t2 : Int) (t19 : List (List Rect)) (t20 t21 : Int) (c1_0 c1_1 c1_2 : List Rect) (c1_3 : List Bend) : k_zbo_0 F Post (.exit 0) (st_zbo_0 t2 t19 t20 t21 c1_0 c1_1 c1_2 c1_3) = g_zbo_c0_1 (fun r0 => Post (.int .i64 r0)) t2 t19 t20 t21 c1_0 c1_1 c1_2 c1_3 (fun t2 t40 t41 t42 => b_zbo_2 F F 0 (st_zbo_2 t2 t40 t41 t42) (k_zbo_2 F Post)) := by kernel_rfl
theorem step_zbo_1 (F n r : Nat) (K : AEx → ASt UU → Prop) (t2 : Int) (t19 : List (List Rect)) (t20 t21 : Int) (t28 : List Rect) (t29 t30 : Int) (c1_0 c1_1 c1_2 : List Rect) (c1_3 : List Bend) : b_zbo_1 F (n + 1) r (st_zbo_1 t2 t19 t20 t21 t28 t29 t30 c1_0 c1_1 c1_2 c1_3) K = g_zbo_s1 (fun t2 t19 t20 t21 t28 t29 t30 c1_0 c1_1 c1_2 c1_3 => b_zbo_1 F n (r + 1) (st_zbo_1 t2 t19 t20 t21 t28 t29 t30 c1_0 c1_1 c1_2 c1_3) K) (fun t2 t19 t20 t21 t28 t29 t30 c1_0 c1_1 c1_2 c1_3 => K .ret (st_zbo_1 t2 t19 t20 t21 t28 t29 t30 c1_0 c1_1 c1_2 c1_3)) (fun t2 t19 t20 t21 t28 t29 t30 c1_0 c1_1 c1_2 c1_3 => K (.exit 2) (st_zbo_1 t2 t19 t20 t21 t28 t29 t30 c1_0 c1_1 c1_2 c1_3)) t2 t19 t20 t21 t28 t29 t30 c1_0 c1_1 c1_2 c1_3 := by kernel_rfl
theorem cont_zbo_1_0 (F n r : Nat) (K : AEx → ASt UU → Prop) (t2 : Int) (t19 : List (List Rect)) (t20 t21 : Int) (t28 : List Rect) (t29 t30 : Int) (c1_0 c1_1 c1_2 : List Rect) (c1_3 : List Bend) : k_zbo_1 F n r K .ret (st_zbo_1 t2 t19 t20 t21 t28 t29 t30 c1_0 c1_1 c1_2 c1_3) = g_zbo_c1_0 (fun t2 t19 t20 t21 c1_0 c1_1 c1_2 c1_3 => b_zbo_0 F n (r + 1) (st_zbo_0 t2 t19 t20 t21 c1_0 c1_1 c1_2 c1_3) K) (fun t2 t19 t20 t21 c1_0 c1_1 c1_2 c1_3 => K .ret (st_zbo_0 t2 t19 t20 t21 c1_0 c1_1 c1_2 c1_3)) (fun t2 t19 t20 t21 c1_0 c1_1 c1_2 c1_3 => K (.exit 0) (st_zbo_0 t2 t19 t20 t21 c1_0 c1_1 c1_2 c1_3)) t2 t19 t20 t21 t28 t29 t30 c1_0 c1_1 c1_2 c1_3 := by kernel_rfl
theorem cont_zbo_1_1 (F n r : Nat) (K : AEx → ASt UU → Prop) (t2 : Int) (t19 : List (List Rect)) (t20 t21 : Int) (t28 : List Rect) (t29 t30 : Int) (c1_0 c1_1 c1_2 : List Rect) (c1_3 : List Bend) : k_zbo_1 F n r K (.exit 2) (st_zbo_1 t2 t19 t20 t21 t28 t29 t30 c1_0 c1_1 c1_2 c1_3) = g_zbo_c1_1 (fun t2 t19 t20 t21 c1_0 c1_1 c1_2 c1_3 => b_zbo_0 F n (r + 1) (st_zbo_0 t2 t19 t20 t21 c1_0 c1_1 c1_2 c1_3) K) (fun t2 t19 t20 t21 c1_0 c1_1 c1_2 c1_3 => K .ret (st_zbo_0 t2 t19 t20 t21 c1_0 c1_1 c1_2 c1_3)) (fun t2 t19 t20 t21 c1_0 c1_1 c1_2 c1_3 => K (.exit 0) (st_zbo_0 t2 t19 t20 t21 c1_0 c1_1 c1_2 c1_3)) t2 t19 t20 t21 t28 t29 t30 c1_0 c1_1 c1_2 c1_3 := by kernel_rfl
theorem step_zbo_2 (F n r : Nat) (K : AEx → ASt UU → Prop) (t2 : Int) (t40 : List Bend) (t41 t42 : Int) : b_zbo_2 F (n + 1) r (st_zbo_2 t2 t40 t41 t42) K = g_zbo_s2 (fun t2 t40 t41 t42 => b_zbo_2 F n (r + 1) (st_zbo_2 t2 t40 t41 t42) K) (fun t2 t40 t41 t42 => K .ret (st_zbo_2 t2 t40 t41 t42)) (fun t2 t40 t41 t42 => K (.exit 4) (st_zbo_2 t2 t40 t41 t42)) t2 t40 t41 t42 := by kernel_rfl
theorem cont_zbo_2_0 (F : Nat) (Post : AVal UU → Prop) (t2 : Int) (t40 : List Bend) (t41 t42 : Int) : k_zbo_2 F Post .ret (st_zbo_2 t2 t40 t41 t42) = g_zbo_c2_0 (fun r0 => Post (.int .i64 r0)) t2 t40 t41 t42 := by kernel_rfl
theorem cont_zbo_2_1 (F : Nat) (Post : AVal UU → Prop) (t2 : Int) (t40 : List Bend) (t41 t42 : Int) : k_zbo_2 F Post (.exit 4) (st_zbo_2 t2 t40 t41 t42) = g_zbo_c2_1 (fun r0 => Post (.int .i64 r0)) t2 t40 t41 t42 := by kernel_rfl
theorem entry_zbo (F : Nat) (Post : AVal UU → Prop) (qa qc qd : List Rect) (qb : List Bend) : exec C_zbw Tryz.f144.ntmps M_zbo F 0 (bo Tryz.f144) (initSt [.agg [.sl .rect qa, .sl .rect qc, .sl .rect qd, .sl .bend qb]]) (AEnds C_zbw false Tryz.f144 Post) = g_zbo_e qa qc qd qb (fun r0 => Post (.int .i64 r0)) (fun t2 t19 t20 t21 c1_0 c1_1 c1_2 c1_3 => b_zbo_0 F F 0 (st_zbo_0 t2 t19 t20 t21 c1_0 c1_1 c1_2 c1_3) (k_zbo_0 F Post)) := by kernel_rfl
theorem loop_zbo_1 (F : Nat) (K : AEx → ASt UU → Prop) : ∀ (n r : Nat) (t2 : Int) (t19 : List (List Rect)) (t20 t21 : Int) (t28 : List Rect) (t29 t30 : Int) (c1_0 c1_1 c1_2 : List Rect) (c1_3 : List Bend), b_zbo_1 F n r (st_zbo_1 t2 t19 t20 t21 t28 t29 t30 c1_0 c1_1 c1_2 c1_3) K = w_zbo_1 F  (fun t2 t19 t20 t21 t28 t29 t30 c1_0 c1_1 c1_2 c1_3 => K .ret (st_zbo_1 t2 t19 t20 t21 t28 t29 t30 c1_0 c1_1 c1_2 c1_3)) (fun t2 t19 t20 t21 t28 t29 t30 c1_0 c1_1 c1_2 c1_3 => K (.exit 2) (st_zbo_1 t2 t19 t20 t21 t28 t29 t30 c1_0 c1_1 c1_2 c1_3)) n t2 t19 t20 t21 t28 t29 t30 c1_0 c1_1 c1_2 c1_3 := by
  intro n
  induction n with
  | zero => intros; rfl
  | succ n ih =>
    intro r t2 t19 t20 t21 t28 t29 t30 c1_0 c1_1 c1_2 c1_3
    have e : (fun t2 t19 t20 t21 t28 t29 t30 c1_0 c1_1 c1_2 c1_3 => b_zbo_1 F n (r + 1) (st_zbo_1 t2 t19 t20 t21 t28 t29 t30 c1_0 c1_1 c1_2 c1_3) K) = w_zbo_1 F  (fun t2 t19 t20 t21 t28 t29 t30 c1_0 c1_1 c1_2 c1_3 => K .ret (st_zbo_1 t2 t19 t20 t21 t28 t29 t30 c1_0 c1_1 c1_2 c1_3)) (fun t2 t19 t20 t21 t28 t29 t30 c1_0 c1_1 c1_2 c1_3 => K (.exit 2) (st_zbo_1 t2 t19 t20 t21 t28 t29 t30 c1_0 c1_1 c1_2 c1_3)) n := by
      funext t2 t19 t20 t21 t28 t29 t30 c1_0 c1_1 c1_2 c1_3
      exact ih (r + 1) t2 t19 t20 t21 t28 t29 t30 c1_0 c1_1 c1_2 c1_3
    rw [step_zbo_1, e]
    rfl
theorem nl_zbo_1 (F n r : Nat) (K : AEx → ASt UU → Prop) (t2 : Int) (t19 : List (List Rect)) (t20 t21 : Int) (t28 : List Rect) (t29 t30 : Int) (c1_0 c1_1 c1_2 : List Rect) (c1_3 : List Bend) : b_zbo_1 F F 0 (st_zbo_1 t2 t19 t20 t21 t28 t29 t30 c1_0 c1_1 c1_2 c1_3) (k_zbo_1 F n r K) = n_zbo_1 F (fun t2 t19 t20 t21 c1_0 c1_1 c1_2 c1_3 => b_zbo_0 F n (r + 1) (st_zbo_0 t2 t19 t20 t21 c1_0 c1_1 c1_2 c1_3) K) (fun t2 t19 t20 t21 c1_0 c1_1 c1_2 c1_3 => K .ret (st_zbo_0 t2 t19 t20 t21 c1_0 c1_1 c1_2 c1_3)) (fun t2 t19 t20 t21 c1_0 c1_1 c1_2 c1_3 => K (.exit 0) (st_zbo_0 t2 t19 t20 t21 c1_0 c1_1 c1_2 c1_3)) t2 t19 t20 t21 t28 t29 t30 c1_0 c1_1 c1_2 c1_3 := by
  rw [loop_zbo_1]
  have h0 : (fun t2 t19 t20 t21 t28 t29 t30 c1_0 c1_1 c1_2 c1_3 => k_zbo_1 F n r K .ret (st_zbo_1 t2 t19 t20 t21 t28 t29 t30 c1_0 c1_1 c1_2 c1_3)) = (fun t2 t19 t20 t21 t28 t29 t30 c1_0 c1_1 c1_2 c1_3 => g_zbo_c1_0 (fun t2 t19 t20 t21 c1_0 c1_1 c1_2 c1_3 => b_zbo_0 F n (r + 1) (st_zbo_0 t2 t19 t20 t21 c1_0 c1_1 c1_2 c1_3) K) (fun t2 t19 t20 t21 c1_0 c1_1 c1_2 c1_3 => K .ret (st_zbo_0 t2 t19 t20 t21 c1_0 c1_1 c1_2 c1_3)) (fun t2 t19 t20 t21 c1_0 c1_1 c1_2 c1_3 => K (.exit 0) (st_zbo_0 t2 t19 t20 t21 c1_0 c1_1 c1_2 c1_3)) t2 t19 t20 t21 t28 t29 t30 c1_0 c1_1 c1_2 c1_3) := by
    funext t2 t19 t20 t21 t28 t29 t30 c1_0 c1_1 c1_2 c1_3
    rw [cont_zbo_1_0]
  have h1 : (fun t2 t19 t20 t21 t28 t29 t30 c1_0 c1_1 c1_2 c1_3 => k_zbo_1 F n r K (.exit 2) (st_zbo_1 t2 t19 t20 t21 t28 t29 t30 c1_0 c1_1 c1_2 c1_3)) = (fun t2 t19 t20 t21 t28 t29 t30 c1_0 c1_1 c1_2 c1_3 => g_zbo_c1_1 (fun t2 t19 t20 t21 c1_0 c1_1 c1_2 c1_3 => b_zbo_0 F n (r + 1) (st_zbo_0 t2 t19 t20 t21 c1_0 c1_1 c1_2 c1_3) K) (fun t2 t19 t20 t21 c1_0 c1_1 c1_2 c1_3 => K .ret (st_zbo_0 t2 t19 t20 t21 c1_0 c1_1 c1_2 c1_3)) (fun t2 t19 t20 t21 c1_0 c1_1 c1_2 c1_3 => K (.exit 0) (st_zbo_0 t2 t19 t20 t21 c1_0 c1_1 c1_2 c1_3)) t2 t19 t20 t21 t28 t29 t30 c1_0 c1_1 c1_2 c1_3) := by
    funext t2 t19 t20 t21 t28 t29 t30 c1_0 c1_1 c1_2 c1_3
    rw [cont_zbo_1_1]
  rw [h0, h1]
  rfl
theorem loop_zbo_2 (F : Nat) (K : AEx → ASt UU → Prop) : ∀ (n r : Nat) (t2 : Int) (t40 : List Bend) (t41 t42 : Int), b_zbo_2 F n r (st_zbo_2 t2 t40 t41 t42) K = w_zbo_2 F  (fun t2 t40 t41 t42 => K .ret (st_zbo_2 t2 t40 t41 t42)) (fun t2 t40 t41 t42 => K (.exit 4) (st_zbo_2 t2 t40 t41 t42)) n t2 t40 t41 t42 := by
  intro n
  induction n with
  | zero => intros; rfl
  | succ n ih =>
    intro r t2 t40 t41 t42
    have e : (fun t2 t40 t41 t42 => b_zbo_2 F n (r + 1) (st_zbo_2 t2 t40 t41 t42) K) = w_zbo_2 F  (fun t2 t40 t41 t42 => K .ret (st_zbo_2 t2 t40 t41 t42)) (fun t2 t40 t41 t42 => K (.exit 4) (st_zbo_2 t2 t40 t41 t42)) n := by
      funext t2 t40 t41 t42
      exact ih (r + 1) t2 t40 t41 t42
    rw [step_zbo_2, e]
    rfl
theorem nl_zbo_2 (F : Nat) (Post : AVal UU → Prop) (t2 : Int) (t40 : List Bend) (t41 t42 : Int) : b_zbo_2 F F 0 (st_zbo_2 t2 t40 t41 t42) (k_zbo_2 F Post) = n_zbo_2 F (fun r0 => Post (.int .i64 r0)) t2 t40 t41 t42 := by
  rw [loop_zbo_2]
  have h0 : (fun t2 t40 t41 t42 => k_zbo_2 F Post .ret (st_zbo_2 t2 t40 t41 t42)) = (fun t2 t40 t41 t42 => g_zbo_c2_0 (fun r0 => Post (.int .i64 r0)) t2 t40 t41 t42) := by
    funext t2 t40 t41 t42
    rw [cont_zbo_2_0]
  have h1 : (fun t2 t40 t41 t42 => k_zbo_2 F Post (.exit 4) (st_zbo_2 t2 t40 t41 t42)) = (fun t2 t40 t41 t42 => g_zbo_c2_1 (fun r0 => Post (.int .i64 r0)) t2 t40 t41 t42) := by
    funext t2 t40 t41 t42
    rw [cont_zbo_2_1]
  rw [h0, h1]
  rfl
theorem loop_zbo_0 (F : Nat) (K : AEx → ASt UU → Prop) : ∀ (n r : Nat) (t2 : Int) (t19 : List (List Rect)) (t20 t21 : Int) (c1_0 c1_1 c1_2 : List Rect) (c1_3 : List Bend), b_zbo_0 F n r (st_zbo_0 t2 t19 t20 t21 c1_0 c1_1 c1_2 c1_3) K = w_zbo_0 F  (fun t2 t19 t20 t21 c1_0 c1_1 c1_2 c1_3 => K .ret (st_zbo_0 t2 t19 t20 t21 c1_0 c1_1 c1_2 c1_3)) (fun t2 t19 t20 t21 c1_0 c1_1 c1_2 c1_3 => K (.exit 0) (st_zbo_0 t2 t19 t20 t21 c1_0 c1_1 c1_2 c1_3)) n t2 t19 t20 t21 c1_0 c1_1 c1_2 c1_3 := by
  intro n
  induction n with
  | zero => intros; rfl
  | succ n ih =>
    intro r t2 t19 t20 t21 c1_0 c1_1 c1_2 c1_3
    have e : (fun t2 t19 t20 t21 c1_0 c1_1 c1_2 c1_3 => b_zbo_0 F n (r + 1) (st_zbo_0 t2 t19 t20 t21 c1_0 c1_1 c1_2 c1_3) K) = w_zbo_0 F  (fun t2 t19 t20 t21 c1_0 c1_1 c1_2 c1_3 => K .ret (st_zbo_0 t2 t19 t20 t21 c1_0 c1_1 c1_2 c1_3)) (fun t2 t19 t20 t21 c1_0 c1_1 c1_2 c1_3 => K (.exit 0) (st_zbo_0 t2 t19 t20 t21 c1_0 c1_1 c1_2 c1_3)) n := by
      funext t2 t19 t20 t21 c1_0 c1_1 c1_2 c1_3
      exact ih (r + 1) t2 t19 t20 t21 c1_0 c1_1 c1_2 c1_3
    have e1 : (fun t2 t19 t20 t21 t28 t29 t30 c1_0 c1_1 c1_2 c1_3 => b_zbo_1 F F 0 (st_zbo_1 t2 t19 t20 t21 t28 t29 t30 c1_0 c1_1 c1_2 c1_3) (k_zbo_1 F n r K)) = (n_zbo_1 F (fun t2 t19 t20 t21 c1_0 c1_1 c1_2 c1_3 => b_zbo_0 F n (r + 1) (st_zbo_0 t2 t19 t20 t21 c1_0 c1_1 c1_2 c1_3) K) (fun t2 t19 t20 t21 c1_0 c1_1 c1_2 c1_3 => K .ret (st_zbo_0 t2 t19 t20 t21 c1_0 c1_1 c1_2 c1_3)) (fun t2 t19 t20 t21 c1_0 c1_1 c1_2 c1_3 => K (.exit 0) (st_zbo_0 t2 t19 t20 t21 c1_0 c1_1 c1_2 c1_3))) := by
      funext t2 t19 t20 t21 t28 t29 t30 c1_0 c1_1 c1_2 c1_3
      exact nl_zbo_1 F n r K t2 t19 t20 t21 t28 t29 t30 c1_0 c1_1 c1_2 c1_3
    rw [step_zbo_0, e1, e]
    rfl
theorem nl_zbo_0 (F : Nat) (Post : AVal UU → Prop) (t2 : Int) (t19 : List (List Rect)) (t20 t21 : Int) (c1_0 c1_1 c1_2 : List Rect) (c1_3 : List Bend) : b_zbo_0 F F 0 (st_zbo_0 t2 t19 t20 t21 c1_0 c1_1 c1_2 c1_3) (k_zbo_0 F Post) = n_zbo_0 F (fun r0 => Post (.int .i64 r0)) t2 t19 t20 t21 c1_0 c1_1 c1_2 c1_3 := by
  rw [loop_zbo_0]
  have e2 : (fun t2 t40 t41 t42 => b_zbo_2 F F 0 (st_zbo_2 t2 t40 t41 t42) (k_zbo_2 F Post)) = (n_zbo_2 F (fun r0 => Post (.int .i64 r0))) := by
    funext t2 t40 t41 t42
    exact nl_zbo_2 F Post t2 t40 t41 t42
  have h0 : (fun t2 t19 t20 t21 c1_0 c1_1 c1_2 c1_3 => k_zbo_0 F Post .ret (st_zbo_0 t2 t19 t20 t21 c1_0 c1_1 c1_2 c1_3)) = (fun t2 t19 t20 t21 c1_0 c1_1 c1_2 c1_3 => g_zbo_c0_0 (fun r0 => Post (.int .i64 r0)) t2 t19 t20 t21 c1_0 c1_1 c1_2 c1_3) := by
    funext t2 t19 t20 t21 c1_0 c1_1 c1_2 c1_3
    rw [cont_zbo_0_0]
  have h1 : (fun t2 t19 t20 t21 c1_0 c1_1 c1_2 c1_3 => k_zbo_0 F Post (.exit 0) (st_zbo_0 t2 t19 t20 t21 c1_0 c1_1 c1_2 c1_3)) = (fun t2 t19 t20 t21 c1_0 c1_1 c1_2 c1_3 => g_zbo_c0_1 (fun r0 => Post (.int .i64 r0)) t2 t19 t20 t21 c1_0 c1_1 c1_2 c1_3 (n_zbo_2 F (fun r0 => Post (.int .i64 r0)))) := by
    funext t2 t19 t20 t21 c1_0 c1_1 c1_2 c1_3
    rw [cont_zbo_0_1, e2]
  rw [h0, h1]
  rfl
theorem exec_zbo (F : Nat) (Post : AVal UU → Prop) (qa qc qd : List Rect) (qb : List Bend) : exec C_zbw Tryz.f144.ntmps M_zbo F 0 (bo Tryz.f144) (initSt [.agg [.sl .rect qa, .sl .rect qc, .sl .rect qd, .sl .bend qb]]) (AEnds C_zbw false Tryz.f144 Post) = w_zbo F qa qc qd qb (fun r0 => Post (.int .i64 r0)) := by
  rw [entry_zbo]
  have e0 : (fun t2 t19 t20 t21 c1_0 c1_1 c1_2 c1_3 => b_zbo_0 F F 0 (st_zbo_0 t2 t19 t20 t21 c1_0 c1_1 c1_2 c1_3) (k_zbo_0 F Post)) = (n_zbo_0 F (fun r0 => Post (.int .i64 r0))) := by
    funext t2 t19 t20 t21 c1_0 c1_1 c1_2 c1_3
    exact nl_zbo_0 F Post t2 t19 t20 t21 c1_0 c1_1 c1_2 c1_3
  rw [e0]
  rfl
def m_zbo : Model UU
  | [.agg [.sl .rect qa, .sl .rect qc, .sl .rect qd, .sl .bend qb]] => some ([pre_zbo qa qc qd qb], .int .i64 (sp_zbo qa qc qd qb))
  | _ => none
def C_zbo : Cfg UU := C_zbw.add 144 m_zbo
theorem s_zbo : SumOK C_zbo := by
  refine s_zbw.addD mixed (fn := Tryz.f144) (c := bo Tryz.f144) Tryz.func144 (by kernel_rfl) (by kernel_rfl) ?_
  intro xs cs r h hc
  unfold m_zbo at h
  split at h
  · rename_i qa qc qd qb
    cases h
    obtain ⟨F, hF⟩ := ok_zbo qa qc qd qb hc
    refine ⟨by kernel_rfl, M_zbo, F, false, ⟨?_⟩⟩
    rw [exec_zbo]
    refine hF _ ?_
    rfl
  · cases h
def b_zay_0 (F n r : Nat) (S : ASt UU) (K : AEx → ASt UU → Prop) : Prop := iter (execG (inliner M_zay F 0 C_zbo) C_zbo Tryz.f150.ntmps M_zay F 0 (cL (cB (cS (cF (cS (cS (bo Tryz.f150)))))))) (M_zay 0 0) n r S K
def k_zay_0 (F : Nat) (Post : AVal UU → Prop) : AEx → ASt UU → Prop := kBlock 0 (kSeq (inliner M_zay F 0 C_zbo) C_zbo Tryz.f150.ntmps M_zay F 0 (cS (cS (cS (bo Tryz.f150)))) (AEnds C_zbo false Tryz.f150 Post))
theorem step_zay_0 (F n r : Nat) (K : AEx → ASt UU → Prop) (t2 : Bool) (t3 : Int) (c1_0 c1_1 c1_2 : List Rect) (c1_3 : List Bend) : b_zay_0 F (n + 1) r (st_zay_0 t2 t3 c1_0 c1_1 c1_2 c1_3) K = g_zay_s0 (fun t2 t3 c1_0 c1_1 c1_2 c1_3 => b_zay_0 F n (r + 1) (st_zay_0 t2 t3 c1_0 c1_1 c1_2 c1_3) K) (fun t2 t3 c1_0 c1_1 c1_2 c1_3 => K .ret (st_zay_0 t2 t3 c1_0 c1_1 c1_2 c1_3)) (fun t2 t3 c1_0 c1_1 c1_2 c1_3 => K (.exit 0) (st_zay_0 t2 t3 c1_0 c1_1 c1_2 c1_3)) t2 t3 c1_0 c1_1 c1_2 c1_3 := by kernel_rfl
theorem cont_zay_0_0 (F : Nat) (Post : AVal UU → Prop) (t2 : Bool) (t3 : Int) (c1_0 c1_1 c1_2 : List Rect) (c1_3 : List Bend) : k_zay_0 F Post .ret (st_zay_0 t2 t3 c1_0 c1_1 c1_2 c1_3) = g_zay_c0_0 (fun r0 => Post (.bool r0)) t2 t3 c1_0 c1_1 c1_2 c1_3 := by kernel_rfl
theorem cont_zay_0_1 (F : Nat) (Post : AVal UU → Prop) (t2 : Bool) (t3 : Int) (c1_0 c1_1 c1_2 : List Rect) (c1_3 : List Bend) : k_zay_0 F Post (.exit 0) (st_zay_0 t2 t3 c1_0 c1_1 c1_2 c1_3) = g_zay_c0_1 (fun r0 => Post (.bool r0)) t2 t3 c1_0 c1_1 c1_2 c1_3 := by kernel_rfl
theorem entry_zay (F : Nat) (Post : AVal UU → Prop) (qa qc qd : List Rect) (qb : List Bend) : exec C_zbo Tryz.f150.ntmps M_zay F 0 (bo Tryz.f150) (initSt [.agg [.sl .rect qa, .sl .rect qc, .sl .rect qd, .sl .bend qb]]) (AEnds C_zbo false Tryz.f150 Post) = g_zay_e qa qc qd qb (fun r0 => Post (.bool r0)) (fun t2 t3 c1_0 c1_1 c1_2 c1_3 => b_zay_0 F F 0 (st_zay_0 t2 t3 c1_0 c1_1 c1_2 c1_3) (k_zay_0 F Post)) := by kernel_rfl
theorem loop_zay_0 (F : Nat) (K : AEx → ASt UU → Prop) : ∀ (n r : Nat) (t2 : Bool) (t3 : Int) (c1_0 c1_1 c1_2 : List Rect) (c1_3 : List Bend), b_zay_0 F n r (st_zay_0 t2 t3 c1_0 c1_1 c1_2 c1_3) K = w_zay_0 F  (fun t2 t3 c1_0 c1_1 c1_2 c1_3 => K .ret (st_zay_0 t2 t3 c1_0 c1_1 c1_2 c1_3)) (fun t2 t3 c1_0 c1_1 c1_2 c1_3 => K (.exit 0) (st_zay_0 t2 t3 c1_0 c1_1 c1_2 c1_3)) n t2 t3 c1_0 c1_1 c1_2 c1_3 := by
  intro n
  induction n with
  | zero => intros; rfl
  | succ n ih =>
    intro r t2 t3 c1_0 c1_1 c1_2 c1_3
    have e : (fun t2 t3 c1_0 c1_1 c1_2 c1_3 => b_zay_0 F n (r + 1) (st_zay_0 t2 t3 c1_0 c1_1 c1_2 c1_3) K) = w_zay_0 F  (fun t2 t3 c1_0 c1_1 c1_2 c1_3 => K .ret (st_zay_0 t2 t3 c1_0 c1_1 c1_2 c1_3)) (fun t2 t3 c1_0 c1_1 c1_2 c1_3 => K (.exit 0) (st_zay_0 t2 t3 c1_0 c1_1 c1_2 c1_3)) n := by
      funext t2 t3 c1_0 c1_1 c1_2 c1_3
      exact ih (r + 1) t2 t3 c1_0 c1_1 c1_2 c1_3
    rw [step_zay_0, e]
    rfl
theorem nl_zay_0 (F : Nat) (Post : AVal UU → Prop) (t2 : Bool) (t3 : Int) (c1_0 c1_1 c1_2 : List Rect) (c1_3 : List Bend) : b_zay_0 F F 0 (st_zay_0 t2 t3 c1_0 c1_1 c1_2 c1_3) (k_zay_0 F Post) = n_zay_0 F (fun r0 => Post (.bool r0)) t2 t3 c1_0 c1_1 c1_2 c1_3 := by
  rw [loop_zay_0]
  have h0 : (fun t2 t3 c1_0 c1_1 c1_2 c1_3 => k_zay_0 F Post .ret (st_zay_0 t2 t3 c1_0 c1_1 c1_2 c1_3)) = (fun t2 t3 c1_0 c1_1 c1_2 c1_3 => g_zay_c0_0 (fun r0 => Post (.bool r0)) t2 t3 c1_0 c1_1 c1_2 c1_3) := by
    funext t2 t3 c1_0 c1_1 c1_2 c1_3
    rw [cont_zay_0_0]
  have h1 : (fun t2 t3 c1_0 c1_1 c1_2 c1_3 => k_zay_0 F Post (.exit 0) (st_zay_0 t2 t3 c1_0 c1_1 c1_2 c1_3)) = (fun t2 t3 c1_0 c1_1 c1_2 c1_3 => g_zay_c0_1 (fun r0 => Post (.bool r0)) t2 t3 c1_0 c1_1 c1_2 c1_3) := by
    funext t2 t3 c1_0 c1_1 c1_2 c1_3
    rw [cont_zay_0_1]
  rw [h0, h1]
  rfl
theorem exec_zay (F : Nat) (Post : AVal UU → Prop) (qa qc qd : List Rect) (qb : List Bend) : exec C_zbo Tryz.f150.ntmps M_zay F 0 (bo Tryz.f150) (initSt [.agg [.sl .rect qa, .sl .rect qc, .sl .rect qd, .sl .bend qb]]) (AEnds C_zbo false Tryz.f150 Post) = w_zay F qa qc qd qb (fun r0 => Post (.bool r0)) := by
  rw [entry_zay]
  have e0 : (fun t2 t3 c1_0 c1_1 c1_2 c1_3 => b_zay_0 F F 0 (st_zay_0 t2 t3 c1_0 c1_1 c1_2 c1_3) (k_zay_0 F Post)) = (n_zay_0 F (fun r0 => Post (.bool r0))) := by
    funext t2 t3 c1_0 c1_1 c1_2 c1_3
    exact nl_zay_0 F Post t2 t3 c1_0 c1_1 c1_2 c1_3
  rw [e0]
  rfl
def m_zay : Model UU
  | [.agg [.sl .rect qa, .sl .rect qc, .sl .rect qd, .sl .bend qb]] => some ([pre_zay qa qc qd qb], .bool (sp_zay qa qc qd qb))
  | _ => none
def C_zay : Cfg UU := C_zbo.add 150 m_zay
theorem s_zay : SumOK C_zay := by
  refine s_zbo.addD mixed (fn := Tryz.f150) (c := bo Tryz.f150) Tryz.func150 (by kernel_rfl) (by kernel_rfl) ?_
  intro xs cs r h hc
  unfold m_zay at h
  split at h
  · rename_i qa qc qd qb
    cases h
    obtain ⟨F, hF⟩ := ok_zay qa qc qd qb hc
    refine ⟨by kernel_rfl, M_zay, F, false, ⟨?_⟩⟩
    rw [exec_zay]
    refine hF _ ?_
    rfl
  · cases h
end
end Go.Proofs.YteffpgliiilnjaaGreatDoor
namespace Go.Proofs.YteffpgliiilnjaaGreatDoor
open Go.Vm Go.RowKit
set_option linter.unusedVariables false
set_option maxRecDepth 100000
noncomputable section
theorem entry_zbf (F : Nat) (Post : AVal UU → Prop) (qa qc qd : List Rect) (qb : List Bend) : exec C_zay Tryz.f96.ntmps M_zbf F 0 (bo Tryz.f96) (initSt [.agg [.sl .rect qa, .sl .rect qc, .sl .rect qd, .sl .bend qb]]) (AEnds C_zay false Tryz.f96 Post) = g_zbf_e qa qc qd qb (fun r0_X r0_Y r0_W r0_H r1 => Post (.tup [.agg [.int .i64 r0_X, .int .i64 r0_Y, .int .i64 r0_W, .int .i64 r0_H], .int .i64 r1])) := by kernel_rfl
theorem exec_zbf (F : Nat) (Post : AVal UU → Prop) (qa qc qd : List Rect) (qb : List Bend) : exec C_zay Tryz.f96.ntmps M_zbf F 0 (bo Tryz.f96) (initSt [.agg [.sl .rect qa, .sl .rect qc, .sl .rect qd, .sl .bend qb]]) (AEnds C_zay false Tryz.f96 Post) = w_zbf F qa qc qd qb (fun r0_X r0_Y r0_W r0_H r1 => Post (.tup [.agg [.int .i64 r0_X, .int .i64 r0_Y, .int .i64 r0_W, .int .i64 r0_H], .int .i64 r1])) := by
  rw [entry_zbf]
  rfl
def m_zbf : Model UU
  | [.agg [.sl .rect qa, .sl .rect qc, .sl .rect qd, .sl .bend qb]] => some ([pre_zbf qa qc qd qb], .tup [.agg [.int .i64 ((sp_zbf qa qc qd qb).1), .int .i64 ((sp_zbf qa qc qd qb).2.1), .int .i64 ((sp_zbf qa qc qd qb).2.2.1), .int .i64 ((sp_zbf qa qc qd qb).2.2.2.1)], .int .i64 ((sp_zbf qa qc qd qb).2.2.2.2)])
  | _ => none
def C_zbf : Cfg UU := C_zay.add 96 m_zbf
theorem s_zbf : SumOK C_zbf := by
  refine s_zay.addD mixed (fn := Tryz.f96) (c := bo Tryz.f96) Tryz.func96 (by kernel_rfl) (by kernel_rfl) ?_
  intro xs cs r h hc
  unfold m_zbf at h
  split at h
  · rename_i qa qc qd qb
    cases h
    obtain ⟨F, hF⟩ := ok_zbf qa qc qd qb hc
    refine ⟨by kernel_rfl, M_zbf, F, false, ⟨?_⟩⟩
    rw [exec_zbf]
    refine hF _ ?_
    rfl
  · cases h
theorem entry_zav (F : Nat) (Post : AVal UU → Prop) (qa qc qd : List Rect) (qb : List Bend) : exec C_zbf Tryz.f101.ntmps M_zav F 0 (bo Tryz.f101) (initSt [.agg [.sl .rect qa, .sl .rect qc, .sl .rect qd, .sl .bend qb]]) (AEnds C_zbf false Tryz.f101 Post) = g_zav_e qa qc qd qb (fun r0_X r0_Y r0_W r0_H r1 => Post (.tup [.agg [.int .i64 r0_X, .int .i64 r0_Y, .int .i64 r0_W, .int .i64 r0_H], .int .i64 r1])) := by kernel_rfl
theorem exec_zav (F : Nat) (Post : AVal UU → Prop) (qa qc qd : List Rect) (qb : List Bend) : exec C_zbf Tryz.f101.ntmps M_zav F 0 (bo Tryz.f101) (initSt [.agg [.sl .rect qa, .sl .rect qc, .sl .rect qd, .sl .bend qb]]) (AEnds C_zbf false Tryz.f101 Post) = w_zav F qa qc qd qb (fun r0_X r0_Y r0_W r0_H r1 => Post (.tup [.agg [.int .i64 r0_X, .int .i64 r0_Y, .int .i64 r0_W, .int .i64 r0_H], .int .i64 r1])) := by
  rw [entry_zav]
  rfl
def m_zav : Model UU
  | [.agg [.sl .rect qa, .sl .rect qc, .sl .rect qd, .sl .bend qb]] => some ([pre_zav qa qc qd qb], .tup [.agg [.int .i64 ((sp_zav qa qc qd qb).1), .int .i64 ((sp_zav qa qc qd qb).2.1), .int .i64 ((sp_zav qa qc qd qb).2.2.1), .int .i64 ((sp_zav qa qc qd qb).2.2.2.1)], .int .i64 ((sp_zav qa qc qd qb).2.2.2.2)])
  | _ => none
def C_zav : Cfg UU := C_zbf.add 101 m_zav
theorem s_zav : SumOK C_zav := by
  refine s_zbf.addD mixed (fn := Tryz.f101) (c := bo Tryz.f101) Tryz.func101 (by kernel_rfl) (by kernel_rfl) ?_
  intro xs cs r h hc
  unfold m_zav at h
  split at h
  · rename_i qa qc qd qb
    cases h
    obtain ⟨F, hF⟩ := ok_zav qa qc qd qb hc
    refine ⟨by kernel_rfl, M_zav, F, false, ⟨?_⟩⟩
    rw [exec_zav]
    refine hF _ ?_
    rfl
  · cases h
end
end Go.Proofs.YteffpgliiilnjaaGreatDoor
namespace Go.Proofs.YteffpgliiilnjaaGreatDoor
open Go.Vm Go.RowKit
set_option linter.unusedVariables false
set_option maxRecDepth 100000
noncomputable section
def b_zh_0 (F n r : Nat) (S : ASt UU) (K : AEx → ASt UU → Prop) : Prop := iter (execG (inliner M_zh F 0 C_zav) C_zav Tryz.f40.ntmps M_zh F 0 (cL (cB (cS (cF (cS (cS (cS (bo Tryz.f40))))))))) (M_zh 0 0) n r S K
def b_zh_1 (F n r : Nat) (S : ASt UU) (K : AEx → ASt UU → Prop) : Prop := iter (execG (inliner M_zh F 0 C_zav) C_zav Tryz.f40.ntmps M_zh F 2 (cL (cB (cS (cF (cS (cS (cS (cS (bo Tryz.f40)))))))))) (M_zh 0 2) n r S K
def k_zh_0 (F : Nat) (Post : AVal UU → Prop) : AEx → ASt UU → Prop := kBlock 0 (kSeq (inliner M_zh F 0 C_zav) C_zav Tryz.f40.ntmps M_zh F 0 (cS (cS (cS (cS (bo Tryz.f40))))) (AEnds C_zav false Tryz.f40 Post))
def k_zh_1 (F : Nat) (Post : AVal UU → Prop) : AEx → ASt UU → Prop := kBlock 2 (kSeq (inliner M_zh F 0 C_zav) C_zav Tryz.f40.ntmps M_zh F 0 (cS (cS (cS (cS (cS (bo Tryz.f40)))))) (AEnds C_zav false Tryz.f40 Post))
theorem step_zh_0 (F n r : Nat) (K : AEx → ASt UU → Prop) (t4 : Int) (t48 : List Bend) (t49 t50 : Int) (c2_0 c2_1 c2_2 : List Rect) (c2_3 : List Bend) : b_zh_0 F (n + 1) r (st_zh_0 t4 t48 t49 t50 c2_0 c2_1 c2_2 c2_3) K = g_zh_s0 (fun t4 t48 t49 t50 c2_0 c2_1 c2_2 c2_3 => b_zh_0 F n (r + 1) (st_zh_0 t4 t48 t49 t50 c2_0 c2_1 c2_2 c2_3) K) (fun t4 t48 t49 t50 c2_0 c2_1 c2_2 c2_3 => K .ret (st_zh_0 t4 t48 t49 t50 c2_0 c2_1 c2_2 c2_3)) (fun t4 t48 t49 t50 c2_0 c2_1 c2_2 c2_3 => K (.exit 0) (st_zh_0 t4 t48 t49 t50 c2_0 c2_1 c2_2 c2_3)) t4 t48 t49 t50 c2_0 c2_1 c2_2 c2_3 := by kernel_rfl
theorem cont_zh_0_0 (F : Nat) (Post : AVal UU → Prop) (t4 : Int) (t48 : List Bend) (t49 t50 : Int) (c2_0 c2_1 c2_2 : List Rect) (c2_3 : List Bend) : k_zh_0 F Post .ret (st_zh_0 t4 t48 t49 t50 c2_0 c2_1 c2_2 c2_3) = g_zh_c0_0 (fun r0 => Post (.int .i64 r0)) t4 t48 t49 t50 c2_0 c2_1 c2_2 c2_3 := by kernel_rfl
theorem cont_zh_0_1 (F : Nat) (Post : AVal UU → Prop) (t4 : Int) (t48 : List Bend) (t49 t50 : Int) (c2_0 c2_1 c2_2 : List Rect) (c2_3 : List Bend) : k_zh_0 F Post (.exit 0) (st_zh_0 t4 t48 t49 t50 c2_0 c2_1 c2_2 c2_3) = g_zh_c0_1 (fun r0 => Post (.int .i64 r0)) t4 t48 t49 t50 c2_0 c2_1 c2_2 c2_3 (fun t4 t89 t90 t91 c2_0 c2_1 c2_2 c2_3 => b_zh_1 F F 0 (st_zh_1 t4 t89 t90 t91 c2_0 c2_1 c2_2 c2_3) (k_zh_1 F Post)) := by kernel_rfl
theorem step_zh_1 (F n r : Nat) (K : AEx → ASt UU → Prop) (t4 : Int) (t89 : List Bend) (t90 t91 : Int) (c2_0 c2_1 c2_2 : List Rect) (c2_3 : List Bend) : b_zh_1 F (n + 1) r (st_zh_1 t4 t89 t90 t91 c2_0 c2_1 c2_2 c2_3) K = g_zh_s1 (fun t4 t89 t90 t91 c2_0 c2_1 c2_2 c2_3 => b_zh_1 F n (r + 1) (st_zh_1 t4 t89 t90 t91 c2_0 c2_1 c2_2 c2_3) K) (fun t4 t89 t90 t91 c2_0 c2_1 c2_2 c2_3 => K .ret (st_zh_1 t4 t89 t90 t91 c2_0 c2_1 c2_2 c2_3)) (fun t4 t89 t90 t91 c2_0 c2_1 c2_2 c2_3 => K (.exit 2) (st_zh_1 t4 t89 t90 t91 c2_0 c2_1 c2_2 c2_3)) t4 t89 t90 t91 c2_0 c2_1 c2_2 c2_3 := by kernel_rfl
theorem cont_zh_1_0 (F : Nat) (Post : AVal UU → Prop) (t4 : Int) (t89 : List Bend) (t90 t91 : Int) (c2_0 c2_1 c2_2 : List Rect) (c2_3 : List Bend) : k_zh_1 F Post .ret (st_zh_1 t4 t89 t90 t91 c2_0 c2_1 c2_2 c2_3) = g_zh_c1_0 (fun r0 => Post (.int .i64 r0)) t4 t89 t90 t91 c2_0 c2_1 c2_2 c2_3 := by kernel_rfl
theorem cont_zh_1_1 (F : Nat) (Post : AVal UU → Prop) (t4 : Int) (t89 : List Bend) (t90 t91 : Int) (c2_0 c2_1 c2_2 : List Rect) (c2_3 : List Bend) : k_zh_1 F Post (.exit 2) (st_zh_1 t4 t89 t90 t91 c2_0 c2_1 c2_2 c2_3) = g_zh_c1_1 (fun r0 => Post (.int .i64 r0)) t4 t89 t90 t91 c2_0 c2_1 c2_2 c2_3 := by kernel_rfl
theorem entry_zh (F : Nat) (Post : AVal UU → Prop) (qa qc qd : List Rect) (qb : List Bend) (a1 : Int) : exec C_zav Tryz.f40.ntmps M_zh F 0 (bo Tryz.f40) (initSt [.agg [.sl .rect qa, .sl .rect qc, .sl .rect qd, .sl .bend qb], .int .i64 a1]) (AEnds C_zav false Tryz.f40 Post) = g_zh_e qa qc qd qb a1 (fun r0 => Post (.int .i64 r0)) (fun t4 t48 t49 t50 c2_0 c2_1 c2_2 c2_3 => b_zh_0 F F 0 (st_zh_0 t4 t48 t49 t50 c2_0 c2_1 c2_2 c2_3) (k_zh_0 F Post)) := by kernel_rfl
theorem loop_zh_1 (F : Nat) (K : AEx → ASt UU → Prop) : ∀ (n r : Nat) (t4 : Int) (t89 : List Bend) (t90 t91 : Int) (c2_0 c2_1 c2_2 : List Rect) (c2_3 : List Bend), b_zh_1 F n r (st_zh_1 t4 t89 t90 t91 c2_0 c2_1 c2_2 c2_3) K = w_zh_1 F  (fun t4 t89 t90 t91 c2_0 c2_1 c2_2 c2_3 => K .ret (st_zh_1 t4 t89 t90 t91 c2_0 c2_1 c2_2 c2_3)) (fun t4 t89 t90 t91 c2_0 c2_1 c2_2 c2_3 => K (.exit 2) (st_zh_1 t4 t89 t90 t91 c2_0 c2_1 c2_2 c2_3)) n t4 t89 t90 t91 c2_0 c2_1 c2_2 c2_3 := by
  intro n
  induction n with
  | zero => intros; rfl
  | succ n ih =>
    intro r t4 t89 t90 t91 c2_0 c2_1 c2_2 c2_3
    have e : (fun t4 t89 t90 t91 c2_0 c2_1 c2_2 c2_3 => b_zh_1 F n (r + 1) (st_zh_1 t4 t89 t90 t91 c2_0 c2_1 c2_2 c2_3) K) = w_zh_1 F  (fun t4 t89 t90 t91 c2_0 c2_1 c2_2 c2_3 => K .ret (st_zh_1 t4 t89 t90 t91 c2_0 c2_1 c2_2 c2_3)) (fun t4 t89 t90 t91 c2_0 c2_1 c2_2 c2_3 => K (.exit 2) (st_zh_1 t4 t89 t90 t91 c2_0 c2_1 c2_2 c2_3)) n := by
      funext t4 t89 t90 t91 c2_0 c2_1 c2_2 c2_3
      exact ih (r + 1) t4 t89 t90 t91 c2_0 c2_1 c2_2 c2_3
    rw [step_zh_1, e]
    rfl
theorem nl_zh_1 (F : Nat) (Post : AVal UU → Prop) (t4 : Int) (t89 : List Bend) (t90 t91 : Int) (c2_0 c2_1 c2_2 : List Rect) (c2_3 : List Bend) : b_zh_1 F F 0 (st_zh_1 t4 t89 t90 t91 c2_0 c2_1 c2_2 c2_3) (k_zh_1 F Post) = n_zh_1 F (fun r0 => Post (.int .i64 r0)) t4 t89 t90 t91 c2_0 c2_1 c2_2 c2_3 := by
  rw [loop_zh_1]
  have h0 : (fun t4 t89 t90 t91 c2_0 c2_1 c2_2 c2_3 => k_zh_1 F Post .ret (st_zh_1 t4 t89 t90 t91 c2_0 c2_1 c2_2 c2_3)) = (fun t4 t89 t90 t91 c2_0 c2_1 c2_2 c2_3 => g_zh_c1_0 (fun r0 => Post (.int .i64 r0)) t4 t89 t90 t91 c2_0 c2_1 c2_2 c2_3) := by
    funext t4 t89 t90 t91 c2_0 c2_1 c2_2 c2_3
    rw [cont_zh_1_0]
  have h1 : (fun t4 t89 t90 t91 c2_0 c2_1 c2_2 c2_3 => k_zh_1 F Post (.exit 2) (st_zh_1 t4 t89 t90 t91 c2_0 c2_1 c2_2 c2_3)) = (fun t4 t89 t90 t91 c2_0 c2_1 c2_2 c2_3 => g_zh_c1_1 (fun r0 => Post (.int .i64 r0)) t4 t89 t90 t91 c2_0 c2_1 c2_2 c2_3) := by
    funext t4 t89 t90 t91 c2_0 c2_1 c2_2 c2_3
    rw [cont_zh_1_1]
  rw [h0, h1]
  rfl
theorem loop_zh_0 (F : Nat) (K : AEx → ASt UU → Prop) : ∀ (n r : Nat) (t4 : Int) (t48 : List Bend) (t49 t50 : Int) (c2_0 c2_1 c2_2 : List Rect) (c2_3 : List Bend), b_zh_0 F n r (st_zh_0 t4 t48 t49 t50 c2_0 c2_1 c2_2 c2_3) K = w_zh_0 F  (fun t4 t48 t49 t50 c2_0 c2_1 c2_2 c2_3 => K .ret (st_zh_0 t4 t48 t49 t50 c2_0 c2_1 c2_2 c2_3)) (fun t4 t48 t49 t50 c2_0 c2_1 c2_2 c2_3 => K (.exit 0) (st_zh_0 t4 t48 t49 t50 c2_0 c2_1 c2_2 c2_3)) n t4 t48 t49 t50 c2_0 c2_1 c2_2 c2_3 := by
  intro n
  induction n with
  | zero => intros; rfl
  | succ n ih =>
    intro r t4 t48 t49 t50 c2_0 c2_1 c2_2 c2_3
    have e : (fun t4 t48 t49 t50 c2_0 c2_1 c2_2 c2_3 => b_zh_0 F n (r + 1) (st_zh_0 t4 t48 t49 t50 c2_0 c2_1 c2_2 c2_3) K) = w_zh_0 F  (fun t4 t48 t49 t50 c2_0 c2_1 c2_2 c2_3 => K .ret (st_zh_0 t4 t48 t49 t50 c2_0 c2_1 c2_2 c2_3)) (fun t4 t48 t49 t50 c2_0 c2_1 c2_2 c2_3 => K (.exit 0) (st_zh_0 t4 t48 t49 t50 c2_0 c2_1 c2_2 c2_3)) n := by
      funext t4 t48 t49 t50 c2_0 c2_1 c2_2 c2_3
      exact ih (r + 1) t4 t48 t49 t50 c2_0 c2_1 c2_2 c2_3
    rw [step_zh_0, e]
    rfl
theorem nl_zh_0 (F : Nat) (Post : AVal UU → Prop) (t4 : Int) (t48 : List Bend) (t49 t50 : Int) (c2_0 c2_1 c2_2 : List Rect) (c2_3 : List Bend) : b_zh_0 F F 0 (st_zh_0 t4 t48 t49 t50 c2_0 c2_1 c2_2 c2_3) (k_zh_0 F Post) = n_zh_0 F (fun r0 => Post (.int .i64 r0)) t4 t48 t49 t50 c2_0 c2_1 c2_2 c2_3 := by
  rw [loop_zh_0]
  have e1 : (fun t4 t89 t90 t91 c2_0 c2_1 c2_2 c2_3 => b_zh_1 F F 0 (st_zh_1 t4 t89 t90 t91 c2_0 c2_1 c2_2 c2_3) (k_zh_1 F Post)) = (n_zh_1 F (fun r0 => Post (.int .i64 r0))) := by
    funext t4 t89 t90 t91 c2_0 c2_1 c2_2 c2_3
    exact nl_zh_1 F Post t4 t89 t90 t91 c2_0 c2_1 c2_2 c2_3
  have h0 : (fun t4 t48 t49 t50 c2_0 c2_1 c2_2 c2_3 => k_zh_0 F Post .ret (st_zh_0 t4 t48 t49 t50 c2_0 c2_1 c2_2 c2_3)) = (fun t4 t48 t49 t50 c2_0 c2_1 c2_2 c2_3 => g_zh_c0_0 (fun r0 => Post (.int .i64 r0)) t4 t48 t49 t50 c2_0 c2_1 c2_2 c2_3) := by
    funext t4 t48 t49 t50 c2_0 c2_1 c2_2 c2_3
    rw [cont_zh_0_0]
  have h1 : (fun t4 t48 t49 t50 c2_0 c2_1 c2_2 c2_3 => k_zh_0 F Post (.exit 0) (st_zh_0 t4 t48 t49 t50 c2_0 c2_1 c2_2 c2_3)) = (fun t4 t48 t49 t50 c2_0 c2_1 c2_2 c2_3 => g_zh_c0_1 (fun r0 => Post (.int .i64 r0)) t4 t48 t49 t50 c2_0 c2_1 c2_2 c2_3 (n_zh_1 F (fun r0 => Post (.int .i64 r0)))) := by
    funext t4 t48 t49 t50 c2_0 c2_1 c2_2 c2_3
    rw [cont_zh_0_1, e1]
  rw [h0, h1]
  rfl
theorem exec_zh (F : Nat) (Post : AVal UU → Prop) (qa qc qd : List Rect) (qb : List Bend) (a1 : Int) : exec C_zav Tryz.f40.ntmps M_zh F 0 (bo Tryz.f40) (initSt [.agg [.sl .rect qa, .sl .rect qc, .sl .rect qd, .sl .bend qb], .int .i64 a1]) (AEnds C_zav false Tryz.f40 Post) = w_zh F qa qc qd qb a1 (fun r0 => Post (.int .i64 r0)) := by
  rw [entry_zh]
  have e0 : (fun t4 t48 t49 t50 c2_0 c2_1 c2_2 c2_3 => b_zh_0 F F 0 (st_zh_0 t4 t48 t49 t50 c2_0 c2_1 c2_2 c2_3) (k_zh_0 F Post)) = (n_zh_0 F (fun r0 => Post (.int .i64 r0))) := by
    funext t4 t48 t49 t50 c2_0 c2_1 c2_2 c2_3
    exact nl_zh_0 F Post t4 t48 t49 t50 c2_0 c2_1 c2_2 c2_3
  rw [e0]
  rfl
def m_zh : Model UU
  | [.agg [.sl .rect qa, .sl .rect qc, .sl .rect qd, .sl .bend qb], .int .i64 a1] => some ([pre_zh qa qc qd qb a1], .int .i64 (sp_zh qa qc qd qb a1))
  | _ => none
def C_zh : Cfg UU := C_zav.add 40 m_zh
theorem s_zh : SumOK C_zh := by
  refine s_zav.addD mixed (fn := Tryz.f40) (c := bo Tryz.f40) Tryz.func40 (by kernel_rfl) (by kernel_rfl) ?_
  intro xs cs r h hc
  unfold m_zh at h
  split at h
  · rename_i qa qc qd qb a1
    cases h
    obtain ⟨F, hF⟩ := ok_zh qa qc qd qb a1 hc
    refine ⟨by kernel_rfl, M_zh, F, false, ⟨?_⟩⟩
    rw [exec_zh]
    refine hF _ ?_
    rfl
  · cases h
def b_zbg_0 (F n r : Nat) (S : ASt UU) (K : AEx → ASt UU → Prop) : Prop := iter (execG (inliner M_zbg F 0 C_zh) C_zh Tryz.f102.ntmps M_zbg F 0 (cL (cB (cS (cF (cS (cS (cS (bo Tryz.f102))))))))) (M_zbg 0 0) n r S K
def k_zbg_0 (F : Nat) (Post : AVal UU → Prop) : AEx → ASt UU → Prop := kBlock 0 (kSeq (inliner M_zbg F 0 C_zh) C_zh Tryz.f102.ntmps M_zbg F 0 (cS (cS (cS (cS (bo Tryz.f102))))) (AEnds C_zh false Tryz.f102 Post))
theorem step_zbg_0 (F n r : Nat) (K : AEx → ASt UU → Prop) (t4 : Bool) (t5 t6 : Int) (c2_0 c2_1 c2_2 : List Rect) (c2_3 : List Bend) : b_zbg_0 F (n + 1) r (st_zbg_0 t4 t5 t6 c2_0 c2_1 c2_2 c2_3) K = g_zbg_s0 (fun t4 t5 t6 c2_0 c2_1 c2_2 c2_3 => b_zbg_0 F n (r + 1) (st_zbg_0 t4 t5 t6 c2_0 c2_1 c2_2 c2_3) K) (fun t4 t5 t6 c2_0 c2_1 c2_2 c2_3 => K .ret (st_zbg_0 t4 t5 t6 c2_0 c2_1 c2_2 c2_3)) (fun t4 t5 t6 c2_0 c2_1 c2_2 c2_3 => K (.exit 0) (st_zbg_0 t4 t5 t6 c2_0 c2_1 c2_2 c2_3)) t4 t5 t6 c2_0 c2_1 c2_2 c2_3 := by kernel_rfl
theorem cont_zbg_0_0 (F : Nat) (Post : AVal UU → Prop) (t4 : Bool) (t5 t6 : Int) (c2_0 c2_1 c2_2 : List Rect) (c2_3 : List Bend) : k_zbg_0 F Post .ret (st_zbg_0 t4 t5 t6 c2_0 c2_1 c2_2 c2_3) = g_zbg_c0_0 (fun r0 => Post (.bool r0)) t4 t5 t6 c2_0 c2_1 c2_2 c2_3 := by kernel_rfl
theorem cont_zbg_0_1 (F : Nat) (Post : AVal UU → Prop) (t4 : Bool) (t5 t6 : Int) (c2_0 c2_1 c2_2 : List Rect) (c2_3 : List Bend) : k_zbg_0 F Post (.exit 0) (st_zbg_0 t4 t5 t6 c2_0 c2_1 c2_2 c2_3) = g_zbg_c0_1 (fun r0 => Post (.bool r0)) t4 t5 t6 c2_0 c2_1 c2_2 c2_3 := by kernel_rfl
theorem entry_zbg (F : Nat) (Post : AVal UU → Prop) (qa qc qd : List Rect) (qb : List Bend) (a1 : Int) : exec C_zh Tryz.f102.ntmps M_zbg F 0 (bo Tryz.f102) (initSt [.agg [.sl .rect qa, .sl .rect qc, .sl .rect qd, .sl .bend qb], .int .i64 a1]) (AEnds C_zh false Tryz.f102 Post) = g_zbg_e qa qc qd qb a1 (fun r0 => Post (.bool r0)) (fun t4 t5 t6 c2_0 c2_1 c2_2 c2_3 => b_zbg_0 F F 0 (st_zbg_0 t4 t5 t6 c2_0 c2_1 c2_2 c2_3) (k_zbg_0 F Post)) := by kernel_rfl
theorem loop_zbg_0 (F : Nat) (K : AEx → ASt UU → Prop) : ∀ (n r : Nat) (t4 : Bool) (t5 t6 : Int) (c2_0 c2_1 c2_2 : List Rect) (c2_3 : List Bend), b_zbg_0 F n r (st_zbg_0 t4 t5 t6 c2_0 c2_1 c2_2 c2_3) K = w_zbg_0 F  (fun t4 t5 t6 c2_0 c2_1 c2_2 c2_3 => K .ret (st_zbg_0 t4 t5 t6 c2_0 c2_1 c2_2 c2_3)) (fun t4 t5 t6 c2_0 c2_1 c2_2 c2_3 => K (.exit 0) (st_zbg_0 t4 t5 t6 c2_0 c2_1 c2_2 c2_3)) n t4 t5 t6 c2_0 c2_1 c2_2 c2_3 := by
  intro n
  induction n with
  | zero => intros; rfl
  | succ n ih =>
    intro r t4 t5 t6 c2_0 c2_1 c2_2 c2_3
    have e : (fun t4 t5 t6 c2_0 c2_1 c2_2 c2_3 => b_zbg_0 F n (r + 1) (st_zbg_0 t4 t5 t6 c2_0 c2_1 c2_2 c2_3) K) = w_zbg_0 F  (fun t4 t5 t6 c2_0 c2_1 c2_2 c2_3 => K .ret (st_zbg_0 t4 t5 t6 c2_0 c2_1 c2_2 c2_3)) (fun t4 t5 t6 c2_0 c2_1 c2_2 c2_3 => K (.exit 0) (st_zbg_0 t4 t5 t6 c2_0 c2_1 c2_2 c2_3)) n := by
      funext t4 t5 t6 c2_0 c2_1 c2_2 c2_3
      exact ih (r + 1) t4 t5 t6 c2_0 c2_1 c2_2 c2_3
    rw [step_zbg_0, e]
    rfl
theorem nl_zbg_0 (F : Nat) (Post : AVal UU → Prop) (t4 : Bool) (t5 t6 : Int) (c2_0 c2_1 c2_2 : List Rect) (c2_3 : List Bend) : b_zbg_0 F F 0 (st_zbg_0 t4 t5 t6 c2_0 c2_1 c2_2 c2_3) (k_zbg_0 F Post) = n_zbg_0 F (fun r0 => Post (.bool r0)) t4 t5 t6 c2_0 c2_1 c2_2 c2_3 := by
  rw [loop_zbg_0]
  have h0 : (fun t4 t5 t6 c2_0 c2_1 c2_2 c2_3 => k_zbg_0 F Post .ret (st_zbg_0 t4 t5 t6 c2_0 c2_1 c2_2 c2_3)) = (fun t4 t5 t6 c2_0 c2_1 c2_2 c2_3 => g_zbg_c0_0 (fun r0 => Post (.bool r0)) t4 t5 t6 c2_0 c2_1 c2_2 c2_3) := by
    funext t4 t5 t6 c2_0 c2_1 c2_2 c2_3
    rw [cont_zbg_0_0]
  have h1 : (fun t4 t5 t6 c2_0 c2_1 c2_2 c2_3 => k_zbg_0 F Post (.exit 0) (st_zbg_0 t4 t5 t6 c2_0 c2_1 c2_2 c2_3)) = (fun t4 t5 t6 c2_0 c2_1 c2_2 c2_3 => g_zbg_c0_1 (fun r0 => Post (.bool r0)) t4 t5 t6 c2_0 c2_1 c2_2 c2_3) := by
    funext t4 t5 t6 c2_0 c2_1 c2_2 c2_3
    rw [cont_zbg_0_1]
  rw [h0, h1]
  rfl
theorem exec_zbg (F : Nat) (Post : AVal UU → Prop) (qa qc qd : List Rect) (qb : List Bend) (a1 : Int) : exec C_zh Tryz.f102.ntmps M_zbg F 0 (bo Tryz.f102) (initSt [.agg [.sl .rect qa, .sl .rect qc, .sl .rect qd, .sl .bend qb], .int .i64 a1]) (AEnds C_zh false Tryz.f102 Post) = w_zbg F qa qc qd qb a1 (fun r0 => Post (.bool r0)) := by
  rw [entry_zbg]
  have e0 : (fun t4 t5 t6 c2_0 c2_1 c2_2 c2_3 => b_zbg_0 F F 0 (st_zbg_0 t4 t5 t6 c2_0 c2_1 c2_2 c2_3) (k_zbg_0 F Post)) = (n_zbg_0 F (fun r0 => Post (.bool r0))) := by
    funext t4 t5 t6 c2_0 c2_1 c2_2 c2_3
    exact nl_zbg_0 F Post t4 t5 t6 c2_0 c2_1 c2_2 c2_3
  rw [e0]
  rfl
def m_zbg : Model UU
  | [.agg [.sl .rect qa, .sl .rect qc, .sl .rect qd, .sl .bend qb], .int .i64 a1] => some ([pre_zbg qa qc qd qb a1], .bool (sp_zbg qa qc qd qb a1))
  | _ => none
def C_zbg : Cfg UU := C_zh.add 102 m_zbg
theorem s_zbg : SumOK C_zbg := by
  refine s_zh.addD mixed (fn := Tryz.f102) (c := bo Tryz.f102) Tryz.func102 (by kernel_rfl) (by kernel_rfl) ?_
  intro xs cs r h hc
  unfold m_zbg at h
  split at h
  · rename_i qa qc qd qb a1
    cases h
    obtain ⟨F, hF⟩ := ok_zbg qa qc qd qb a1 hc
    refine ⟨by kernel_rfl, M_zbg, F, false, ⟨?_⟩⟩
    rw [exec_zbg]
    refine hF _ ?_
    rfl
  · cases h
def b_zab_0 (F n r : Nat) (S : ASt UU) (K : AEx → ASt UU → Prop) : Prop := iter (execG (inliner M_zab F 0 C_zbg) C_zbg Tryz.f41.ntmps M_zab F 0 (cL (cB (cS (cF (cS (cS (cS (cS (cS (bo Tryz.f41))))))))))) (M_zab 0 0) n r S K
def k_zab_0 (F : Nat) (Post : AVal UU → Prop) : AEx → ASt UU → Prop := kBlock 0 (kSeq (inliner M_zab F 0 C_zbg) C_zbg Tryz.f41.ntmps M_zab F 0 (cS (cS (cS (cS (cS (cS (bo Tryz.f41))))))) (AEnds C_zbg true Tryz.f41 Post))
theorem step_zab_0 (F n r : Nat) (K : AEx → ASt UU → Prop) (t1 : Int) (t38 : List Bend) (t39 t40 : Int) (c2_0 c2_1 c2_2 : List Rect) (c2_3 : List Bend) (l68 : List Frm) : b_zab_0 F (n + 1) r (st_zab_0 t1 t38 t39 t40 c2_0 c2_1 c2_2 c2_3 l68) K = g_zab_s0 (fun t1 t38 t39 t40 c2_0 c2_1 c2_2 c2_3 l68 => b_zab_0 F n (r + 1) (st_zab_0 t1 t38 t39 t40 c2_0 c2_1 c2_2 c2_3 l68) K) (fun t1 t38 t39 t40 c2_0 c2_1 c2_2 c2_3 l68 => K (.exit 0) (st_zab_0 t1 t38 t39 t40 c2_0 c2_1 c2_2 c2_3 l68)) t1 t38 t39 t40 c2_0 c2_1 c2_2 c2_3 l68 := by kernel_rfl
theorem cont_zab_0_0 (F : Nat) (Post : AVal UU → Prop) (t1 : Int) (t38 : List Bend) (t39 t40 : Int) (c2_0 c2_1 c2_2 : List Rect) (c2_3 : List Bend) (l68 : List Frm) : k_zab_0 F Post (.exit 0) (st_zab_0 t1 t38 t39 t40 c2_0 c2_1 c2_2 c2_3 l68) = g_zab_c0_0 (fun r0 => Post (.new .frm r0)) t1 t38 t39 t40 c2_0 c2_1 c2_2 c2_3 l68 := by kernel_rfl
theorem entry_zab (F : Nat) (Post : AVal UU → Prop) (qa qc qd : List Rect) (qb : List Bend) (a1 : Int) : exec C_zbg Tryz.f41.ntmps M_zab F 0 (bo Tryz.f41) (initSt [.agg [.sl .rect qa, .sl .rect qc, .sl .rect qd, .sl .bend qb], .int .i64 a1]) (AEnds C_zbg true Tryz.f41 Post) = g_zab_e qa qc qd qb a1 (fun r0 => Post (.new .frm r0)) (fun t1 t38 t39 t40 c2_0 c2_1 c2_2 c2_3 l68 => b_zab_0 F F 0 (st_zab_0 t1 t38 t39 t40 c2_0 c2_1 c2_2 c2_3 l68) (k_zab_0 F Post)) := by kernel_rfl
theorem loop_zab_0 (F : Nat) (K : AEx → ASt UU → Prop) : ∀ (n r : Nat) (t1 : Int) (t38 : List Bend) (t39 t40 : Int) (c2_0 c2_1 c2_2 : List Rect) (c2_3 : List Bend) (l68 : List Frm), b_zab_0 F n r (st_zab_0 t1 t38 t39 t40 c2_0 c2_1 c2_2 c2_3 l68) K = w_zab_0 F  (fun t1 t38 t39 t40 c2_0 c2_1 c2_2 c2_3 l68 => K (.exit 0) (st_zab_0 t1 t38 t39 t40 c2_0 c2_1 c2_2 c2_3 l68)) n t1 t38 t39 t40 c2_0 c2_1 c2_2 c2_3 l68 := by
  intro n
  induction n with
  | zero => intros; rfl
  | succ n ih =>
    intro r t1 t38 t39 t40 c2_0 c2_1 c2_2 c2_3 l68
    have e : (fun t1 t38 t39 t40 c2_0 c2_1 c2_2 c2_3 l68 => b_zab_0 F n (r + 1) (st_zab_0 t1 t38 t39 t40 c2_0 c2_1 c2_2 c2_3 l68) K) = w_zab_0 F  (fun t1 t38 t39 t40 c2_0 c2_1 c2_2 c2_3 l68 => K (.exit 0) (st_zab_0 t1 t38 t39 t40 c2_0 c2_1 c2_2 c2_3 l68)) n := by
      funext t1 t38 t39 t40 c2_0 c2_1 c2_2 c2_3 l68
      exact ih (r + 1) t1 t38 t39 t40 c2_0 c2_1 c2_2 c2_3 l68
    rw [step_zab_0, e]
    rfl
theorem nl_zab_0 (F : Nat) (Post : AVal UU → Prop) (t1 : Int) (t38 : List Bend) (t39 t40 : Int) (c2_0 c2_1 c2_2 : List Rect) (c2_3 : List Bend) (l68 : List Frm) : b_zab_0 F F 0 (st_zab_0 t1 t38 t39 t40 c2_0 c2_1 c2_2 c2_3 l68) (k_zab_0 F Post) = n_zab_0 F (fun r0 => Post (.new .frm r0)) t1 t38 t39 t40 c2_0 c2_1 c2_2 c2_3 l68 := by
  rw [loop_zab_0]
  have h0 : (fun t1 t38 t39 t40 c2_0 c2_1 c2_2 c2_3 l68 => k_zab_0 F Post (.exit 0) (st_zab_0 t1 t38 t39 t40 c2_0 c2_1 c2_2 c2_3 l68)) = (fun t1 t38 t39 t40 c2_0 c2_1 c2_2 c2_3 l68 => g_zab_c0_0 (fun r0 => Post (.new .frm r0)) t1 t38 t39 t40 c2_0 c2_1 c2_2 c2_3 l68) := by
    funext t1 t38 t39 t40 c2_0 c2_1 c2_2 c2_3 l68
    rw [cont_zab_0_0]
  rw [h0]
  rfl
theorem exec_zab (F : Nat) (Post : AVal UU → Prop) (qa qc qd : List Rect) (qb : List Bend) (a1 : Int) : exec C_zbg Tryz.f41.ntmps M_zab F 0 (bo Tryz.f41) (initSt [.agg [.sl .rect qa, .sl .rect qc, .sl .rect qd, .sl .bend qb], .int .i64 a1]) (AEnds C_zbg true Tryz.f41 Post) = w_zab F qa qc qd qb a1 (fun r0 => Post (.new .frm r0)) := by
  rw [entry_zab]
  have e0 : (fun t1 t38 t39 t40 c2_0 c2_1 c2_2 c2_3 l68 => b_zab_0 F F 0 (st_zab_0 t1 t38 t39 t40 c2_0 c2_1 c2_2 c2_3 l68) (k_zab_0 F Post)) = (n_zab_0 F (fun r0 => Post (.new .frm r0))) := by
    funext t1 t38 t39 t40 c2_0 c2_1 c2_2 c2_3 l68
    exact nl_zab_0 F Post t1 t38 t39 t40 c2_0 c2_1 c2_2 c2_3 l68
  rw [e0]
  rfl
def m_zab : Model UU
  | [.agg [.sl .rect qa, .sl .rect qc, .sl .rect qd, .sl .bend qb], .int .i64 a1] => some ([pre_zab qa qc qd qb a1], .new .frm (sp_zab qa qc qd qb a1))
  | _ => none
def C_zab : Cfg UU := C_zbg.add 41 m_zab
theorem s_zab : SumOK C_zab := by
  refine s_zbg.addD mixed (fn := Tryz.f41) (c := bo Tryz.f41) Tryz.func41 (by kernel_rfl) (by kernel_rfl) ?_
  intro xs cs r h hc
  unfold m_zab at h
  split at h
  · rename_i qa qc qd qb a1
    cases h
    obtain ⟨F, hF⟩ := ok_zab qa qc qd qb a1 hc
    refine ⟨by kernel_rfl, M_zab, F, true, ⟨?_⟩⟩
    rw [exec_zab]
    refine hF _ ?_
    rfl
  · cases h
def b_zap_0 (F n r : Nat) (S : ASt UU) (K : AEx → ASt UU → Prop) : Prop := iter (execG (inliner M_zap F 0 C_zab) C_zab Tryz.f48.ntmps M_zap F 0 (cL (cB (cS (cF (cS (bo Tryz.f48))))))) (M_zap 0 0) n r S K
def k_zap_0 (F : Nat) (Post : AVal UU → Prop) : AEx → ASt UU → Prop := kBlock 0 (kSeq (inliner M_zap F 0 C_zab) C_zab Tryz.f48.ntmps M_zap F 0 (cS (cS (bo Tryz.f48))) (AEnds C_zab false Tryz.f48 Post))
theorem step_zap_0 (F n r : Nat) (K : AEx → ASt UU → Prop) (t4 t5 : Int) (c2_0 c2_1 c2_2 : List Rect) (c2_3 : List Bend) (c3_0 c3_1 c3_2 c3_3 : Int) : b_zap_0 F (n + 1) r (st_zap_0 t4 t5 c2_0 c2_1 c2_2 c2_3 c3_0 c3_1 c3_2 c3_3) K = g_zap_s0 (fun t4 t5 c2_0 c2_1 c2_2 c2_3 c3_0 c3_1 c3_2 c3_3 => b_zap_0 F n (r + 1) (st_zap_0 t4 t5 c2_0 c2_1 c2_2 c2_3 c3_0 c3_1 c3_2 c3_3) K) (fun t4 t5 c2_0 c2_1 c2_2 c2_3 c3_0 c3_1 c3_2 c3_3 => K .ret (st_zap_0 t4 t5 c2_0 c2_1 c2_2 c2_3 c3_0 c3_1 c3_2 c3_3)) (fun t4 t5 c2_0 c2_1 c2_2 c2_3 c3_0 c3_1 c3_2 c3_3 => K (.exit 0) (st_zap_0 t4 t5 c2_0 c2_1 c2_2 c2_3 c3_0 c3_1 c3_2 c3_3)) t4 t5 c2_0 c2_1 c2_2 c2_3 c3_0 c3_1 c3_2 c3_3 := by kernel_rfl
theorem cont_zap_0_0 (F : Nat) (Post : AVal UU → Prop) (t4 t5 : Int) (c2_0 c2_1 c2_2 : List Rect) (c2_3 : List Bend) (c3_0 c3_1 c3_2 c3_3 : Int) : k_zap_0 F Post .ret (st_zap_0 t4 t5 c2_0 c2_1 c2_2 c2_3 c3_0 c3_1 c3_2 c3_3) = g_zap_c0_0 (fun r0 => Post (.int .i64 r0)) t4 t5 c2_0 c2_1 c2_2 c2_3 c3_0 c3_1 c3_2 c3_3 := by kernel_rfl
theorem cont_zap_0_1 (F : Nat) (Post : AVal UU → Prop) (t4 t5 : Int) (c2_0 c2_1 c2_2 : List Rect) (c2_3 : List Bend) (c3_0 c3_1 c3_2 c3_3 : Int) : k_zap_0 F Post (.exit 0) (st_zap_0 t4 t5 c2_0 c2_1 c2_2 c2_3 c3_0 c3_1 c3_2 c3_3) = g_zap_c0_1 (fun r0 => Post (.int .i64 r0)) t4 t5 c2_0 c2_1 c2_2 c2_3 c3_0 c3_1 c3_2 c3_3 := by kernel_rfl
theorem entry_zap (F : Nat) (Post : AVal UU → Prop) (qa qc qd : List Rect) (qb : List Bend) (a1_X a1_Y a1_W a1_H : Int) : exec C_zab Tryz.f48.ntmps M_zap F 0 (bo Tryz.f48) (initSt [.agg [.sl .rect qa, .sl .rect qc, .sl .rect qd, .sl .bend qb], .agg [.int .i64 a1_X, .int .i64 a1_Y, .int .i64 a1_W, .int .i64 a1_H]]) (AEnds C_zab false Tryz.f48 Post) = g_zap_e qa qc qd qb a1_X a1_Y a1_W a1_H (fun r0 => Post (.int .i64 r0)) (fun t4 t5 c2_0 c2_1 c2_2 c2_3 c3_0 c3_1 c3_2 c3_3 => b_zap_0 F F 0 (st_zap_0 t4 t5 c2_0 c2_1 c2_2 c2_3 c3_0 c3_1 c3_2 c3_3) (k_zap_0 F Post)) := by kernel_rfl
theorem loop_zap_0 (F : Nat) (K : AEx → ASt UU → Prop) : ∀ (n r : Nat) (t4 t5 : Int) (c2_0 c2_1 c2_2 : List Rect) (c2_3 : List Bend) (c3_0 c3_1 c3_2 c3_3 : Int), b_zap_0 F n r (st_zap_0 t4 t5 c2_0 c2_1 c2_2 c2_3 c3_0 c3_1 c3_2 c3_3) K = w_zap_0 F  (fun t4 t5 c2_0 c2_1 c2_2 c2_3 c3_0 c3_1 c3_2 c3_3 => K .ret (st_zap_0 t4 t5 c2_0 c2_1 c2_2 c2_3 c3_0 c3_1 c3_2 c3_3)) (fun t4 t5 c2_0 c2_1 c2_2 c2_3 c3_0 c3_1 c3_2 c3_3 => K (.exit 0) (st_zap_0 t4 t5 c2_0 c2_1 c2_2 c2_3 c3_0 c3_1 c3_2 c3_3)) n t4 t5 c2_0 c2_1 c2_2 c2_3 c3_0 c3_1 c3_2 c3_3 := by
  intro n
  induction n with
  | zero => intros; rfl
  | succ n ih =>
    intro r t4 t5 c2_0 c2_1 c2_2 c2_3 c3_0 c3_1 c3_2 c3_3
    have e : (fun t4 t5 c2_0 c2_1 c2_2 c2_3 c3_0 c3_1 c3_2 c3_3 => b_zap_0 F n (r + 1) (st_zap_0 t4 t5 c2_0 c2_1 c2_2 c2_3 c3_0 c3_1 c3_2 c3_3) K) = w_zap_0 F  (fun t4 t5 c2_0 c2_1 c2_2 c2_3 c3_0 c3_1 c3_2 c3_3 => K .ret (st_zap_0 t4 t5 c2_0 c2_1 c2_2 c2_3 c3_0 c3_1 c3_2 c3_3)) (fun t4 t5 c2_0 c2_1 c2_2 c2_3 c3_0 c3_1 c3_2 c3_3 => K (.exit 0) (st_zap_0 t4 t5 c2_0 c2_1 c2_2 c2_3 c3_0 c3_1 c3_2 c3_3)) n := by
      funext t4 t5 c2_0 c2_1 c2_2 c2_3 c3_0 c3_1 c3_2 c3_3
      exact ih (r + 1) t4 t5 c2_0 c2_1 c2_2 c2_3 c3_0 c3_1 c3_2 c3_3
    rw [step_zap_0, e]
    rfl
theorem nl_zap_0 (F : Nat) (Post : AVal UU → Prop) (t4 t5 : Int) (c2_0 c2_1 c2_2 : List Rect) (c2_3 : List Bend) (c3_0 c3_1 c3_2 c3_3 : Int) : b_zap_0 F F 0 (st_zap_0 t4 t5 c2_0 c2_1 c2_2 c2_3 c3_0 c3_1 c3_2 c3_3) (k_zap_0 F Post) = n_zap_0 F (fun r0 => Post (.int .i64 r0)) t4 t5 c2_0 c2_1 c2_2 c2_3 c3_0 c3_1 c3_2 c3_3 := by
  rw [loop_zap_0]
  have h0 : (fun t4 t5 c2_0 c2_1 c2_2 c2_3 c3_0 c3_1 c3_2 c3_3 => k_zap_0 F Post .ret (st_zap_0 t4 t5 c2_0 c2_1 c2_2 c2_3 c3_0 c3_1 c3_2 c3_3)) = (fun t4 t5 c2_0 c2_1 c2_2 c2_3 c3_0 c3_1 c3_2 c3_3 => g_zap_c0_0 (fun r0 => Post (.int .i64 r0)) t4 t5 c2_0 c2_1 c2_2 c2_3 c3_0 c3_1 c3_2 c3_3) := by
    funext t4 t5 c2_0 c2_1 c2_2 c2_3 c3_0 c3_1 c3_2 c3_3
    rw [cont_zap_0_0]
  have h1 : (fun t4 t5 c2_0 c2_1 c2_2 c2_3 c3_0 c3_1 c3_2 c3_3 => k_zap_0 F Post (.exit 0) (st_zap_0 t4 t5 c2_0 c2_1 c2_2 c2_3 c3_0 c3_1 c3_2 c3_3)) = (fun t4 t5 c2_0 c2_1 c2_2 c2_3 c3_0 c3_1 c3_2 c3_3 => g_zap_c0_1 (fun r0 => Post (.int .i64 r0)) t4 t5 c2_0 c2_1 c2_2 c2_3 c3_0 c3_1 c3_2 c3_3) := by
    funext t4 t5 c2_0 c2_1 c2_2 c2_3 c3_0 c3_1 c3_2 c3_3
    rw [cont_zap_0_1]
  rw [h0, h1]
  rfl
theorem exec_zap (F : Nat) (Post : AVal UU → Prop) (qa qc qd : List Rect) (qb : List Bend) (a1_X a1_Y a1_W a1_H : Int) : exec C_zab Tryz.f48.ntmps M_zap F 0 (bo Tryz.f48) (initSt [.agg [.sl .rect qa, .sl .rect qc, .sl .rect qd, .sl .bend qb], .agg [.int .i64 a1_X, .int .i64 a1_Y, .int .i64 a1_W, .int .i64 a1_H]]) (AEnds C_zab false Tryz.f48 Post) = w_zap F qa qc qd qb a1_X a1_Y a1_W a1_H (fun r0 => Post (.int .i64 r0)) := by
  rw [entry_zap]
  have e0 : (fun t4 t5 c2_0 c2_1 c2_2 c2_3 c3_0 c3_1 c3_2 c3_3 => b_zap_0 F F 0 (st_zap_0 t4 t5 c2_0 c2_1 c2_2 c2_3 c3_0 c3_1 c3_2 c3_3) (k_zap_0 F Post)) = (n_zap_0 F (fun r0 => Post (.int .i64 r0))) := by
    funext t4 t5 c2_0 c2_1 c2_2 c2_3 c3_0 c3_1 c3_2 c3_3
    exact nl_zap_0 F Post t4 t5 c2_0 c2_1 c2_2 c2_3 c3_0 c3_1 c3_2 c3_3
  rw [e0]
  rfl
def m_zap : Model UU
  | [.agg [.sl .rect qa, .sl .rect qc, .sl .rect qd, .sl .bend qb], .agg [.int .i64 a1_X, .int .i64 a1_Y, .int .i64 a1_W, .int .i64 a1_H]] => some ([pre_zap qa qc qd qb a1_X a1_Y a1_W a1_H], .int .i64 (sp_zap qa qc qd qb a1_X a1_Y a1_W a1_H))
  | _ => none
def C_zap : Cfg UU := C_zab.add 48 m_zap
theorem s_zap : SumOK C_zap := by
  refine s_zab.addD mixed (fn := Tryz.f48) (c := bo Tryz.f48) Tryz.func48 (by kernel_rfl) (by kernel_rfl) ?_
  intro xs cs r h hc
  unfold m_zap at h
  split at h
  · rename_i qa qc qd qb a1_X a1_Y a1_W a1_H
    cases h
    obtain ⟨F, hF⟩ := ok_zap qa qc qd qb a1_X a1_Y a1_W a1_H hc
    refine ⟨by kernel_rfl, M_zap, F, false, ⟨?_⟩⟩
    rw [exec_zap]
    refine hF _ ?_
    rfl
  · cases h
def b_ixf2_0 (F n r : Nat) (S : ASt UU) (K : AEx → ASt UU → Prop) : Prop := iter (execG (inliner M_ixf2 F 0 C_zap) C_zap Tryz.f44.ntmps M_ixf2 F 0 (cL (cB (cS (cF (cS (bo Tryz.f44))))))) (M_ixf2 0 0) n r S K
def k_ixf2_0 (F : Nat) (Post : AVal UU → Prop) : AEx → ASt UU → Prop := kBlock 0 (kSeq (inliner M_ixf2 F 0 C_zap) C_zap Tryz.f44.ntmps M_ixf2 F 0 (cS (cS (bo Tryz.f44))) (AEnds C_zap false Tryz.f44 Post))
theorem step_ixf2_0 (F n r : Nat) (K : AEx → ASt UU → Prop) (t0 : List Rect) (t1_0_0 t1_0_1 t1_0_2 t1_0_3 t4 t7 t8 : Int) : b_ixf2_0 F (n + 1) r (st_ixf2_0 t0 t1_0_0 t1_0_1 t1_0_2 t1_0_3 t4 t7 t8) K = g_ixf2_s0 (fun t0 t1_0_0 t1_0_1 t1_0_2 t1_0_3 t4 t7 t8 => b_ixf2_0 F n (r + 1) (st_ixf2_0 t0 t1_0_0 t1_0_1 t1_0_2 t1_0_3 t4 t7 t8) K) (fun t0 t1_0_0 t1_0_1 t1_0_2 t1_0_3 t4 t7 t8 => K .ret (st_ixf2_0 t0 t1_0_0 t1_0_1 t1_0_2 t1_0_3 t4 t7 t8)) (fun t0 t1_0_0 t1_0_1 t1_0_2 t1_0_3 t4 t7 t8 => K (.exit 0) (st_ixf2_0 t0 t1_0_0 t1_0_1 t1_0_2 t1_0_3 t4 t7 t8)) t0 t1_0_0 t1_0_1 t1_0_2 t1_0_3 t4 t7 t8 := by kernel_rfl
theorem cont_ixf2_0_0 (F : Nat) (Post : AVal UU → Prop) (t0 : List Rect) (t1_0_0 t1_0_1 t1_0_2 t1_0_3 t4 t7 t8 : Int) : k_ixf2_0 F Post .ret (st_ixf2_0 t0 t1_0_0 t1_0_1 t1_0_2 t1_0_3 t4 t7 t8) = g_ixf2_c0_0 (fun r0 => Post (.int .i64 r0)) t0 t1_0_0 t1_0_1 t1_0_2 t1_0_3 t4 t7 t8 := by kernel_rfl
theorem cont_ixf2_0_1 (F : Nat) (Post : AVal UU → Prop) (t0 : List Rect) (t1_0_0 t1_0_1 t1_0_2 t1_0_3 t4 t7 t8 : Int) : k_ixf2_0 F Post (.exit 0) (st_ixf2_0 t0 t1_0_0 t1_0_1 t1_0_2 t1_0_3 t4 t7 t8) = g_ixf2_c0_1 (fun r0 => Post (.int .i64 r0)) t0 t1_0_0 t1_0_1 t1_0_2 t1_0_3 t4 t7 t8 := by kernel_rfl
theorem entry_ixf2 (F : Nat) (Post : AVal UU → Prop) (l : List Rect) (r_0 r_1 r_2 r_3 : Int) : exec C_zap Tryz.f44.ntmps M_ixf2 F 0 (bo Tryz.f44) (initSt [.sl .rect l, .fn 45 [.ref [.int .i64 r_0, .int .i64 r_1, .int .i64 r_2, .int .i64 r_3] 0]]) (AEnds C_zap false Tryz.f44 Post) = g_ixf2_e l r_0 r_1 r_2 r_3 (fun r0 => Post (.int .i64 r0)) (fun t0 t1_0_0 t1_0_1 t1_0_2 t1_0_3 t4 t7 t8 => b_ixf2_0 F F 0 (st_ixf2_0 t0 t1_0_0 t1_0_1 t1_0_2 t1_0_3 t4 t7 t8) (k_ixf2_0 F Post)) := by kernel_rfl
theorem loop_ixf2_0 (F : Nat) (K : AEx → ASt UU → Prop) : ∀ (n r : Nat) (t0 : List Rect) (t1_0_0 t1_0_1 t1_0_2 t1_0_3 t4 t7 t8 : Int), b_ixf2_0 F n r (st_ixf2_0 t0 t1_0_0 t1_0_1 t1_0_2 t1_0_3 t4 t7 t8) K = w_ixf2_0 F  (fun t0 t1_0_0 t1_0_1 t1_0_2 t1_0_3 t4 t7 t8 => K .ret (st_ixf2_0 t0 t1_0_0 t1_0_1 t1_0_2 t1_0_3 t4 t7 t8)) (fun t0 t1_0_0 t1_0_1 t1_0_2 t1_0_3 t4 t7 t8 => K (.exit 0) (st_ixf2_0 t0 t1_0_0 t1_0_1 t1_0_2 t1_0_3 t4 t7 t8)) n t0 t1_0_0 t1_0_1 t1_0_2 t1_0_3 t4 t7 t8 := by
  intro n
  induction n with
  | zero => intros; rfl
  | succ n ih =>
    intro r t0 t1_0_0 t1_0_1 t1_0_2 t1_0_3 t4 t7 t8
    have e : (fun t0 t1_0_0 t1_0_1 t1_0_2 t1_0_3 t4 t7 t8 => b_ixf2_0 F n (r + 1) (st_ixf2_0 t0 t1_0_0 t1_0_1 t1_0_2 t1_0_3 t4 t7 t8) K) = w_ixf2_0 F  (fun t0 t1_0_0 t1_0_1 t1_0_2 t1_0_3 t4 t7 t8 => K .ret (st_ixf2_0 t0 t1_0_0 t1_0_1 t1_0_2 t1_0_3 t4 t7 t8)) (fun t0 t1_0_0 t1_0_1 t1_0_2 t1_0_3 t4 t7 t8 => K (.exit 0) (st_ixf2_0 t0 t1_0_0 t1_0_1 t1_0_2 t1_0_3 t4 t7 t8)) n := by
      funext t0 t1_0_0 t1_0_1 t1_0_2 t1_0_3 t4 t7 t8
      exact ih (r + 1) t0 t1_0_0 t1_0_1 t1_0_2 t1_0_3 t4 t7 t8
    rw [step_ixf2_0, e]
    rfl
theorem nl_ixf2_0 (F : Nat) (Post : AVal UU → Prop) (t0 : List Rect) (t1_0_0 t1_0_1 t1_0_2 t1_0_3 t4 t7 t8 : Int) : b_ixf2_0 F F 0 (st_ixf2_0 t0 t1_0_0 t1_0_1 t1_0_2 t1_0_3 t4 t7 t8) (k_ixf2_0 F Post) = n_ixf2_0 F (fun r0 => Post (.int .i64 r0)) t0 t1_0_0 t1_0_1 t1_0_2 t1_0_3 t4 t7 t8 := by
  rw [loop_ixf2_0]
  have h0 : (fun t0 t1_0_0 t1_0_1 t1_0_2 t1_0_3 t4 t7 t8 => k_ixf2_0 F Post .ret (st_ixf2_0 t0 t1_0_0 t1_0_1 t1_0_2 t1_0_3 t4 t7 t8)) = (fun t0 t1_0_0 t1_0_1 t1_0_2 t1_0_3 t4 t7 t8 => g_ixf2_c0_0 (fun r0 => Post (.int .i64 r0)) t0 t1_0_0 t1_0_1 t1_0_2 t1_0_3 t4 t7 t8) := by
    funext t0 t1_0_0 t1_0_1 t1_0_2 t1_0_3 t4 t7 t8
    rw [cont_ixf2_0_0]
  have h1 : (fun t0 t1_0_0 t1_0_1 t1_0_2 t1_0_3 t4 t7 t8 => k_ixf2_0 F Post (.exit 0) (st_ixf2_0 t0 t1_0_0 t1_0_1 t1_0_2 t1_0_3 t4 t7 t8)) = (fun t0 t1_0_0 t1_0_1 t1_0_2 t1_0_3 t4 t7 t8 => g_ixf2_c0_1 (fun r0 => Post (.int .i64 r0)) t0 t1_0_0 t1_0_1 t1_0_2 t1_0_3 t4 t7 t8) := by
    funext t0 t1_0_0 t1_0_1 t1_0_2 t1_0_3 t4 t7 t8
    rw [cont_ixf2_0_1]
  rw [h0, h1]
  rfl
theorem exec_ixf2 (F : Nat) (Post : AVal UU → Prop) (l : List Rect) (r_0 r_1 r_2 r_3 : Int) : exec C_zap Tryz.f44.ntmps M_ixf2 F 0 (bo Tryz.f44) (initSt [.sl .rect l, .fn 45 [.ref [.int .i64 r_0, .int .i64 r_1, .int .i64 r_2, .int .i64 r_3] 0]]) (AEnds C_zap false Tryz.f44 Post) = w_ixf2 F l r_0 r_1 r_2 r_3 (fun r0 => Post (.int .i64 r0)) := by
  rw [entry_ixf2]
  have e0 : (fun t0 t1_0_0 t1_0_1 t1_0_2 t1_0_3 t4 t7 t8 => b_ixf2_0 F F 0 (st_ixf2_0 t0 t1_0_0 t1_0_1 t1_0_2 t1_0_3 t4 t7 t8) (k_ixf2_0 F Post)) = (n_ixf2_0 F (fun r0 => Post (.int .i64 r0))) := by
    funext t0 t1_0_0 t1_0_1 t1_0_2 t1_0_3 t4 t7 t8
    exact nl_ixf2_0 F Post t0 t1_0_0 t1_0_1 t1_0_2 t1_0_3 t4 t7 t8
  rw [e0]
  rfl
def m_ixf2 : Model UU
  | [.sl .rect l, .fn 45 [.ref [.int .i64 r_0, .int .i64 r_1, .int .i64 r_2, .int .i64 r_3] 0]] => some ([pre_ixf2 l r_0 r_1 r_2 r_3], .int .i64 (sp_ixf2 l r_0 r_1 r_2 r_3))
  | _ => none
def C_ixf2 : Cfg UU := C_zap.add 44 m_ixf2
theorem s_ixf2 : SumOK C_ixf2 := by
  refine s_zap.addD mixed (fn := Tryz.f44) (c := bo Tryz.f44) Tryz.func44 (by kernel_rfl) (by kernel_rfl) ?_
  intro xs cs r h hc
  unfold m_ixf2 at h
  split at h
  · rename_i l r_0 r_1 r_2 r_3
    cases h
    obtain ⟨F, hF⟩ := ok_ixf2 l r_0 r_1 r_2 r_3 hc
    refine ⟨by kernel_rfl, M_ixf2, F, false, ⟨?_⟩⟩
    rw [exec_ixf2]
    refine hF _ ?_
    rfl
  · cases h
def b_zv_0 (F n r : Nat) (S : ASt UU) (K : AEx → ASt UU → Prop) : Prop := iter (execG (inliner M_zv F 0 C_ixf2) C_ixf2 Tryz.f19.ntmps M_zv F 0 (cL (cB (cS (cF (cS (cS (bo Tryz.f19)))))))) (M_zv 0 0) n r S K
def k_zv_0 (F : Nat) (Post : AVal UU → Prop) : AEx → ASt UU → Prop := kBlock 0 (kSeq (inliner M_zv F 0 C_ixf2) C_ixf2 Tryz.f19.ntmps M_zv F 0 (cS (cS (cS (bo Tryz.f19)))) (AEnds C_ixf2 false Tryz.f19 Post))
theorem step_zv_0 (F n r : Nat) (K : AEx → ASt UU → Prop) (t0 t1 : List Face) (t4 : Bool) (t5 : Int) : b_zv_0 F (n + 1) r (st_zv_0 t0 t1 t4 t5) K = g_zv_s0 (fun t0 t1 t4 t5 => b_zv_0 F n (r + 1) (st_zv_0 t0 t1 t4 t5) K) (fun t0 t1 t4 t5 => K .ret (st_zv_0 t0 t1 t4 t5)) (fun t0 t1 t4 t5 => K (.exit 0) (st_zv_0 t0 t1 t4 t5)) t0 t1 t4 t5 := by kernel_rfl
theorem cont_zv_0_0 (F : Nat) (Post : AVal UU → Prop) (t0 t1 : List Face) (t4 : Bool) (t5 : Int) : k_zv_0 F Post .ret (st_zv_0 t0 t1 t4 t5) = g_zv_c0_0 (fun r0 => Post (.bool r0)) t0 t1 t4 t5 := by kernel_rfl
theorem cont_zv_0_1 (F : Nat) (Post : AVal UU → Prop) (t0 t1 : List Face) (t4 : Bool) (t5 : Int) : k_zv_0 F Post (.exit 0) (st_zv_0 t0 t1 t4 t5) = g_zv_c0_1 (fun r0 => Post (.bool r0)) t0 t1 t4 t5 := by kernel_rfl
theorem entry_zv (F : Nat) (Post : AVal UU → Prop) (a0 a1 : List Face) : exec C_ixf2 Tryz.f19.ntmps M_zv F 0 (bo Tryz.f19) (initSt [.sl .face a0, .sl .face a1]) (AEnds C_ixf2 false Tryz.f19 Post) = g_zv_e a0 a1 (fun r0 => Post (.bool r0)) (fun t0 t1 t4 t5 => b_zv_0 F F 0 (st_zv_0 t0 t1 t4 t5) (k_zv_0 F Post)) := by kernel_rfl
theorem loop_zv_0 (F : Nat) (K : AEx → ASt UU → Prop) : ∀ (n r : Nat) (t0 t1 : List Face) (t4 : Bool) (t5 : Int), b_zv_0 F n r (st_zv_0 t0 t1 t4 t5) K = w_zv_0 F  (fun t0 t1 t4 t5 => K .ret (st_zv_0 t0 t1 t4 t5)) (fun t0 t1 t4 t5 => K (.exit 0) (st_zv_0 t0 t1 t4 t5)) n t0 t1 t4 t5 := by
  intro n
  induction n with
  | zero => intros; rfl
  | succ n ih =>
    intro r t0 t1 t4 t5
    have e : (fun t0 t1 t4 t5 => b_zv_0 F n (r + 1) (st_zv_0 t0 t1 t4 t5) K) = w_zv_0 F  (fun t0 t1 t4 t5 => K .ret (st_zv_0 t0 t1 t4 t5)) (fun t0 t1 t4 t5 => K (.exit 0) (st_zv_0 t0 t1 t4 t5)) n := by
      funext t0 t1 t4 t5
      exact ih (r + 1) t0 t1 t4 t5
    rw [step_zv_0, e]
    rfl
theorem nl_zv_0 (F : Nat) (Post : AVal UU → Prop) (t0 t1 : List Face) (t4 : Bool) (t5 : Int) : b_zv_0 F F 0 (st_zv_0 t0 t1 t4 t5) (k_zv_0 F Post) = n_zv_0 F (fun r0 => Post (.bool r0)) t0 t1 t4 t5 := by
  rw [loop_zv_0]
  have h0 : (fun t0 t1 t4 t5 => k_zv_0 F Post .ret (st_zv_0 t0 t1 t4 t5)) = (fun t0 t1 t4 t5 => g_zv_c0_0 (fun r0 => Post (.bool r0)) t0 t1 t4 t5) := by
    funext t0 t1 t4 t5
    rw [cont_zv_0_0]
  have h1 : (fun t0 t1 t4 t5 => k_zv_0 F Post (.exit 0) (st_zv_0 t0 t1 t4 t5)) = (fun t0 t1 t4 t5 => g_zv_c0_1 (fun r0 => Post (.bool r0)) t0 t1 t4 t5) := by
    funext t0 t1 t4 t5
    rw [cont_zv_0_1]
  rw [h0, h1]
  rfl
theorem exec_zv (F : Nat) (Post : AVal UU → Prop) (a0 a1 : List Face) : exec C_ixf2 Tryz.f19.ntmps M_zv F 0 (bo Tryz.f19) (initSt [.sl .face a0, .sl .face a1]) (AEnds C_ixf2 false Tryz.f19 Post) = w_zv F a0 a1 (fun r0 => Post (.bool r0)) := by
  rw [entry_zv]
  have e0 : (fun t0 t1 t4 t5 => b_zv_0 F F 0 (st_zv_0 t0 t1 t4 t5) (k_zv_0 F Post)) = (n_zv_0 F (fun r0 => Post (.bool r0))) := by
    funext t0 t1 t4 t5
    exact nl_zv_0 F Post t0 t1 t4 t5
  rw [e0]
  rfl
def m_zv : Model UU
  | [.sl .face a0, .sl .face a1] => some ([pre_zv a0 a1], .bool (sp_zv a0 a1))
  | _ => none
def C_zv : Cfg UU := C_ixf2.add 19 m_zv
theorem s_zv : SumOK C_zv := by
  refine s_ixf2.addD mixed (fn := Tryz.f19) (c := bo Tryz.f19) Tryz.func19 (by kernel_rfl) (by kernel_rfl) ?_
  intro xs cs r h hc
  unfold m_zv at h
  split at h
  · rename_i a0 a1
    cases h
    obtain ⟨F, hF⟩ := ok_zv a0 a1 hc
    refine ⟨by kernel_rfl, M_zv, F, false, ⟨?_⟩⟩
    rw [exec_zv]
    refine hF _ ?_
    rfl
  · cases h
end
end Go.Proofs.YteffpgliiilnjaaGreatDoor
namespace Go.Proofs.YteffpgliiilnjaaGreatDoor
open Go.Vm Go.RowKit
set_option linter.unusedVariables false
set_option maxRecDepth 100000
noncomputable section
def b_zaq_0 (F n r : Nat) (S : ASt UU) (K : AEx → ASt UU → Prop) : Prop := iter (execG (inliner M_zaq F 0 C_zv) C_zv Tryz.f42.ntmps M_zaq F 0 (cL (cB (cS (cF (cS (cS (cS (cS (cS (cS (cS (cS (bo Tryz.f42)))))))))))))) (M_zaq 0 0) n r S K
def k_zaq_0 (F : Nat) (Post : AVal UU → Prop) : AEx → ASt UU → Prop := kBlock 0 (kSeq (inliner M_zaq F 0 C_zv) C_zv Tryz.f42.ntmps M_zaq F 0 (cS (cS (cS (cS (cS (cS (cS (cS (cS (bo Tryz.f42)))))))))) (AEnds C_zv false Tryz.f42 Post))
theorem step_zaq_0 (F n r : Nat) (K : AEx → ASt UU → Prop) (t1 t5 t11 : Int) (c2_0 c2_1 c2_2 : List Rect) (c2_3 : List Bend) (l183 : List Frr) : b_zaq_0 F (n + 1) r (st_zaq_0 t1 t5 t11 c2_0 c2_1 c2_2 c2_3 l183) K = g_zaq_s0 (fun t1 t5 t11 c2_0 c2_1 c2_2 c2_3 l183 => b_zaq_0 F n (r + 1) (st_zaq_0 t1 t5 t11 c2_0 c2_1 c2_2 c2_3 l183) K) (fun t1 t5 t11 c2_0 c2_1 c2_2 c2_3 l183 => K .ret (st_zaq_0 t1 t5 t11 c2_0 c2_1 c2_2 c2_3 l183)) (fun t1 t5 t11 c2_0 c2_1 c2_2 c2_3 l183 => K (.exit 0) (st_zaq_0 t1 t5 t11 c2_0 c2_1 c2_2 c2_3 l183)) t1 t5 t11 c2_0 c2_1 c2_2 c2_3 l183 := by kernel_rfl
theorem cont_zaq_0_0 (F : Nat) (Post : AVal UU → Prop) (t1 t5 t11 : Int) (c2_0 c2_1 c2_2 : List Rect) (c2_3 : List Bend) (l183 : List Frr) : k_zaq_0 F Post .ret (st_zaq_0 t1 t5 t11 c2_0 c2_1 c2_2 c2_3 l183) = g_zaq_c0_0 (fun r0 r1 => Post (.tup [.sl .frr r0, .int .i64 r1])) t1 t5 t11 c2_0 c2_1 c2_2 c2_3 l183 := by kernel_rfl
theorem cont_zaq_0_1 (F : Nat) (Post : AVal UU → Prop) (t1 t5 t11 : Int) (c2_0 c2_1 c2_2 : List Rect) (c2_3 : List Bend) (l183 : List Frr) : k_zaq_0 F Post (.exit 0) (st_zaq_0 t1 t5 t11 c2_0 c2_1 c2_2 c2_3 l183) = g_zaq_c0_1 (fun r0 r1 => Post (.tup [.sl .frr r0, .int .i64 r1])) t1 t5 t11 c2_0 c2_1 c2_2 c2_3 l183 := by kernel_rfl
theorem entry_zaq (F : Nat) (Post : AVal UU → Prop) (qa qc qd : List Rect) (qb : List Bend) (a1 : Int) : exec C_zv Tryz.f42.ntmps M_zaq F 0 (bo Tryz.f42) (initSt [.agg [.sl .rect qa, .sl .rect qc, .sl .rect qd, .sl .bend qb], .int .i64 a1]) (AEnds C_zv false Tryz.f42 Post) = g_zaq_e qa qc qd qb a1 (fun r0 r1 => Post (.tup [.sl .frr r0, .int .i64 r1])) (fun t1 t5 t11 c2_0 c2_1 c2_2 c2_3 l183 => b_zaq_0 F F 0 (st_zaq_0 t1 t5 t11 c2_0 c2_1 c2_2 c2_3 l183) (k_zaq_0 F Post)) := by kernel_rfl
theorem loop_zaq_0 (F : Nat) (K : AEx → ASt UU → Prop) : ∀ (n r : Nat) (t1 t5 t11 : Int) (c2_0 c2_1 c2_2 : List Rect) (c2_3 : List Bend) (l183 : List Frr), b_zaq_0 F n r (st_zaq_0 t1 t5 t11 c2_0 c2_1 c2_2 c2_3 l183) K = w_zaq_0 F  (fun t1 t5 t11 c2_0 c2_1 c2_2 c2_3 l183 => K .ret (st_zaq_0 t1 t5 t11 c2_0 c2_1 c2_2 c2_3 l183)) (fun t1 t5 t11 c2_0 c2_1 c2_2 c2_3 l183 => K (.exit 0) (st_zaq_0 t1 t5 t11 c2_0 c2_1 c2_2 c2_3 l183)) n t1 t5 t11 c2_0 c2_1 c2_2 c2_3 l183 := by
  intro n
  induction n with
  | zero => intros; rfl
  | succ n ih =>
    intro r t1 t5 t11 c2_0 c2_1 c2_2 c2_3 l183
    have e : (fun t1 t5 t11 c2_0 c2_1 c2_2 c2_3 l183 => b_zaq_0 F n (r + 1) (st_zaq_0 t1 t5 t11 c2_0 c2_1 c2_2 c2_3 l183) K) = w_zaq_0 F  (fun t1 t5 t11 c2_0 c2_1 c2_2 c2_3 l183 => K .ret (st_zaq_0 t1 t5 t11 c2_0 c2_1 c2_2 c2_3 l183)) (fun t1 t5 t11 c2_0 c2_1 c2_2 c2_3 l183 => K (.exit 0) (st_zaq_0 t1 t5 t11 c2_0 c2_1 c2_2 c2_3 l183)) n := by
      funext t1 t5 t11 c2_0 c2_1 c2_2 c2_3 l183
      exact ih (r + 1) t1 t5 t11 c2_0 c2_1 c2_2 c2_3 l183
    rw [step_zaq_0, e]
    rfl
theorem nl_zaq_0 (F : Nat) (Post : AVal UU → Prop) (t1 t5 t11 : Int) (c2_0 c2_1 c2_2 : List Rect) (c2_3 : List Bend) (l183 : List Frr) : b_zaq_0 F F 0 (st_zaq_0 t1 t5 t11 c2_0 c2_1 c2_2 c2_3 l183) (k_zaq_0 F Post) = n_zaq_0 F (fun r0 r1 => Post (.tup [.sl .frr r0, .int .i64 r1])) t1 t5 t11 c2_0 c2_1 c2_2 c2_3 l183 := by
  rw [loop_zaq_0]
  have h0 : (fun t1 t5 t11 c2_0 c2_1 c2_2 c2_3 l183 => k_zaq_0 F Post .ret (st_zaq_0 t1 t5 t11 c2_0 c2_1 c2_2 c2_3 l183)) = (fun t1 t5 t11 c2_0 c2_1 c2_2 c2_3 l183 => g_zaq_c0_0 (fun r0 r1 => Post (.tup [.sl .frr r0, .int .i64 r1])) t1 t5 t11 c2_0 c2_1 c2_2 c2_3 l183) := by
    funext t1 t5 t11 c2_0 c2_1 c2_2 c2_3 l183
    rw [cont_zaq_0_0]
  have h1 : (fun t1 t5 t11 c2_0 c2_1 c2_2 c2_3 l183 => k_zaq_0 F Post (.exit 0) (st_zaq_0 t1 t5 t11 c2_0 c2_1 c2_2 c2_3 l183)) = (fun t1 t5 t11 c2_0 c2_1 c2_2 c2_3 l183 => g_zaq_c0_1 (fun r0 r1 => Post (.tup [.sl .frr r0, .int .i64 r1])) t1 t5 t11 c2_0 c2_1 c2_2 c2_3 l183) := by
    funext t1 t5 t11 c2_0 c2_1 c2_2 c2_3 l183
    rw [cont_zaq_0_1]
  rw [h0, h1]
  rfl
theorem exec_zaq (F : Nat) (Post : AVal UU → Prop) (qa qc qd : List Rect) (qb : List Bend) (a1 : Int) : exec C_zv Tryz.f42.ntmps M_zaq F 0 (bo Tryz.f42) (initSt [.agg [.sl .rect qa, .sl .rect qc, .sl .rect qd, .sl .bend qb], .int .i64 a1]) (AEnds C_zv false Tryz.f42 Post) = w_zaq F qa qc qd qb a1 (fun r0 r1 => Post (.tup [.sl .frr r0, .int .i64 r1])) := by
  rw [entry_zaq]
  have e0 : (fun t1 t5 t11 c2_0 c2_1 c2_2 c2_3 l183 => b_zaq_0 F F 0 (st_zaq_0 t1 t5 t11 c2_0 c2_1 c2_2 c2_3 l183) (k_zaq_0 F Post)) = (n_zaq_0 F (fun r0 r1 => Post (.tup [.sl .frr r0, .int .i64 r1]))) := by
    funext t1 t5 t11 c2_0 c2_1 c2_2 c2_3 l183
    exact nl_zaq_0 F Post t1 t5 t11 c2_0 c2_1 c2_2 c2_3 l183
  rw [e0]
  rfl
def m_zaq : Model UU
  | [.agg [.sl .rect qa, .sl .rect qc, .sl .rect qd, .sl .bend qb], .int .i64 a1] => some ([pre_zaq qa qc qd qb a1], .tup [.sl .frr ((sp_zaq qa qc qd qb a1).1), .int .i64 ((sp_zaq qa qc qd qb a1).2)])
  | _ => none
def C_zaq : Cfg UU := C_zv.add 42 m_zaq
theorem s_zaq : SumOK C_zaq := by
  refine s_zv.addD mixed (fn := Tryz.f42) (c := bo Tryz.f42) Tryz.func42 (by kernel_rfl) (by kernel_rfl) ?_
  intro xs cs r h hc
  unfold m_zaq at h
  split at h
  · rename_i qa qc qd qb a1
    cases h
    obtain ⟨F, hF⟩ := ok_zaq qa qc qd qb a1 hc
    refine ⟨by kernel_rfl, M_zaq, F, false, ⟨?_⟩⟩
    rw [exec_zaq]
    refine hF _ ?_
    rfl
  · cases h
end
end Go.Proofs.YteffpgliiilnjaaGreatDoor
namespace Go.Proofs
open Go.Shelf
def Tryz.grow108_ren : Go.Shelf.Ren := ⟨fun | 4 => 108 | n => n, fun | 22 => 22 | 25 => 65 | 3 => 3 | 4 => 4 | 9 => 9 | 20 => 20 | 0 => 0 | n => n, fun | n => n⟩
theorem Tryz.grow108 : Go.Proofs.Lays8.n4 Tryz.prog Tryz.grow108_ren := {
  mixed := by kernel_rfl
  f4 := ⟨Tryz.f108.name, by decide, Tryz.func108.trans (congrArg some (by kernel_rfl))⟩
  t0 := Tryz.underlying0
  a0 := Tryz.isAgg0
  z0 := Tryz.sizeOf0
  v0 := Tryz.zeroValue0
  t3 := Tryz.underlying3
  a3 := Tryz.isAgg3
  z3 := Tryz.sizeOf3
  v3 := Tryz.zeroValue3
  t4 := Tryz.underlying4
  a4 := Tryz.isAgg4
  z4 := Tryz.sizeOf4
  v4 := Tryz.zeroValue4
  t9 := Tryz.underlying9
  a9 := Tryz.isAgg9
  z9 := Tryz.sizeOf9
  v9 := Tryz.zeroValue9
  t20 := Tryz.underlying20
  a20 := Tryz.isAgg20
  z20 := Tryz.sizeOf20
  v20 := Tryz.zeroValue20
  t22 := Tryz.underlying22
  a22 := Tryz.isAgg22
  z22 := Tryz.sizeOf22
  v22 := Tryz.zeroValue22 }
end Go.Proofs
namespace Go.Proofs.YteffpgliiilnjaaGreatDoor
open Go.Vm Go.RowKit
set_option linter.unusedVariables false
noncomputable section
def mGrow : Model UU
  | [.nils, .int .i64 n] => some ([0 ≤ n ∧ n ≤ 1000000], .new .rect [])
  | _ => none
theorem sGrow {C : Cfg UU} (hE : C.E = EE) (hs : SumOK C) (hP : C.P = Tryz.prog) : SumOK (C.add 108 mGrow) := by
  refine hs.put ⟨fun args w => by rw [hP]; exact callFunc_run (fn := Tryz.f108) Tryz.func108 (by kernel_rfl) rfl args w, ?_⟩
  intro N w args xs cs r hinv hN hargs hm hc
  unfold mGrow at hm
  split at hm
  · rename_i n
    cases hm
    obtain ⟨h0, h1⟩ : 0 ≤ n ∧ n ≤ 1000000 := hc
    obtain ⟨a, b, rfl, ha, hb⟩ := args2 hargs
    rw [hP]
    rw [hE] at ha hb ⊢
    cases ha
    cases hb
    obtain ⟨k, rfl⟩ : ∃ k : Nat, n = k := ⟨n.toNat, by omega⟩
    rcases Nat.eq_zero_or_pos k with rfl | hk
    · refine (Any8.slices_Grow_room (P := Tryz.prog) Tryz.grow108 none 0 0 0 w (by omega) (by omega) (by omega) (by omega)).mono ?_
      rintro e w' ⟨rfl, rfl⟩
      exact ⟨_, rfl, fresh_new (cs := []) (Below.refl _ _) (World.ownsRow_nil _ _ _ _) (by intro a e; cases e) (fun i h => absurd h (by simp)), Below.refl _ _⟩
    · obtain ⟨i0, hi, hz0, hz1, hz2⟩ := info_parts (P := Tryz.prog) (e := 65) (z := .agg #[.int .i64 0, .int .i64 0, .int .i64 0, .int .i64 0]) (size := 4) (bytes := 32) (by kernel_rfl)
      refine (Any8.slices_Grow_grow (P := Tryz.prog) Tryz.grow108 i0 (.agg #[.int .i64 0, .int .i64 0, .int .i64 0, .int .i64 0]) hi hz0 (by omega) none 0 0 k [] w (by omega) (by omega) (by rw [hz2]; omega) (by omega) (by simp) (fun _ => rfl) (fun a e => by cases e)).mono ?_
      rintro e w' ⟨rfl, rfl⟩
      have hb : Below w.heap.size w (w.drew.alloc (.cells (([] : List Value).toArray ++ Builtin.zeroCells (Value.agg #[.int .i64 0, .int .i64 0, .int .i64 0, .int .i64 0]).cells (0 + k - 0) ++ Builtin.zeroCells (Value.agg #[.int .i64 0, .int .i64 0, .int .i64 0, .int .i64 0]).cells (grownCap w (0 + k) 0 65 - (0 + k))) 65)) := ((Below.refl w.heap.size w).trans ⟨rfl, rfl, rfl, Nat.le_refl _, fun _ _ => rfl⟩ : Below w.heap.size w w.drew).alloc (Nat.le_refl _) _
      have hg := grownCap_ge w k 0 (Tryz.grow108_ren.t 25)
      have hm := grownCap_le_maxLen w (0 + k) 0 65 (by unfold maxLen; omega)
      refine ⟨_, rfl, fresh_new (cs := []) hb (World.ownsRow_made w.drew _ _ (Nat.le_refl _) hm ?_) (by intro a e; cases e) (fun i h => absurd h (by simp)), hb⟩
      simp [Builtin.zeroCells, Value.cells]
      omega
  · cases hm
def C_fs : Cfg UU := C_zaq.add 108 mGrow
theorem s_fs : SumOK C_fs := sGrow rfl s_zaq rfl
end
end Go.Proofs.YteffpgliiilnjaaGreatDoor
namespace Go.Proofs.YteffpgliiilnjaaGreatDoor
open Go.Vm Go.RowKit
set_option linter.unusedVariables false
set_option maxRecDepth 100000
noncomputable section
def b_cat_0 (F n r : Nat) (S : ASt UU) (K : AEx → ASt UU → Prop) : Prop := iter (execG (inliner M_cat F 0 C_fs) C_fs Tryz.f43.ntmps M_cat F 0 (cL (cB (cS (cF (cS (cS (bo Tryz.f43)))))))) (M_cat 0 0) n r S K
def b_cat_1 (F n r : Nat) (S : ASt UU) (K : AEx → ASt UU → Prop) : Prop := iter (execG (inliner M_cat F 0 C_fs) C_fs Tryz.f43.ntmps M_cat F 2 (cL (cB (cS (cF (cS (cS (cS (cS (bo Tryz.f43)))))))))) (M_cat 0 2) n r S K
def k_cat_0 (F : Nat) (Post : AVal UU → Prop) : AEx → ASt UU → Prop := kBlock 0 (kSeq (inliner M_cat F 0 C_fs) C_fs Tryz.f43.ntmps M_cat F 0 (cS (cS (cS (bo Tryz.f43)))) (AEnds C_fs true Tryz.f43 Post))
def k_cat_1 (F : Nat) (Post : AVal UU → Prop) : AEx → ASt UU → Prop := kBlock 2 (kSeq (inliner M_cat F 0 C_fs) C_fs Tryz.f43.ntmps M_cat F 0 (cS (cS (cS (cS (cS (bo Tryz.f43)))))) (AEnds C_fs true Tryz.f43 Post))
theorem step_cat_0 (F n r : Nat) (K : AEx → ASt UU → Prop) (t0 : List (List Rect)) (t3 : Int) (t9 : List (List Rect)) (t10 t11 : Int) : b_cat_0 F (n + 1) r (st_cat_0 t0 t3 t9 t10 t11) K = g_cat_s0 (fun t0 t3 t9 t10 t11 => b_cat_0 F n (r + 1) (st_cat_0 t0 t3 t9 t10 t11) K) (fun t0 t3 t9 t10 t11 => K (.exit 0) (st_cat_0 t0 t3 t9 t10 t11)) t0 t3 t9 t10 t11 := by kernel_rfl
theorem cont_cat_0_0 (F : Nat) (Post : AVal UU → Prop) (t0 : List (List Rect)) (t3 : Int) (t9 : List (List Rect)) (t10 t11 : Int) : k_cat_0 F Post (.exit 0) (st_cat_0 t0 t3 t9 t10 t11) = g_cat_c0_0 (fun r0 => Post (.new .rect r0)) t0 t3 t9 t10 t11 (fun t25 t26 t27 l36 => b_cat_1 F F 0 (st_cat_1 t25 t26 t27 l36) (k_cat_1 F Post)) := by kernel_rfl
theorem step_cat_1 (F n r : Nat) (K : AEx → ASt UU → Prop) (t25 : List (List Rect)) (t26 t27 : Int) (l36 : List Rect) : b_cat_1 F (n + 1) r (st_cat_1 t25 t26 t27 l36) K = g_cat_s1 (fun t25 t26 t27 l36 => b_cat_1 F n (r + 1) (st_cat_1 t25 t26 t27 l36) K) (fun t25 t26 t27 l36 => K (.exit 2) (st_cat_1 t25 t26 t27 l36)) t25 t26 t27 l36 := by kernel_rfl
theorem cont_cat_1_0 (F : Nat) (Post : AVal UU → Prop) (t25 : List (List Rect)) (t26 t27 : Int) (l36 : List Rect) : k_cat_1 F Post (.exit 2) (st_cat_1 t25 t26 t27 l36) = g_cat_c1_0 (fun r0 => Post (.new .rect r0)) t25 t26 t27 l36 := by kernel_rfl
theorem entry_cat (F : Nat) (Post : AVal UU → Prop) (a0 : List (List Rect)) : exec C_fs Tryz.f43.ntmps M_cat F 0 (bo Tryz.f43) (initSt [.sl .rects a0]) (AEnds C_fs true Tryz.f43 Post) = g_cat_e a0 (fun r0 => Post (.new .rect r0)) (fun t0 t3 t9 t10 t11 => b_cat_0 F F 0 (st_cat_0 t0 t3 t9 t10 t11) (k_cat_0 F Post)) := by kernel_rfl
theorem loop_cat_1 (F : Nat) (K : AEx → ASt UU → Prop) : ∀ (n r : Nat) (t25 : List (List Rect)) (t26 t27 : Int) (l36 : List Rect), b_cat_1 F n r (st_cat_1 t25 t26 t27 l36) K = w_cat_1 F  (fun t25 t26 t27 l36 => K (.exit 2) (st_cat_1 t25 t26 t27 l36)) n t25 t26 t27 l36 := by
  intro n
  induction n with
  | zero => intros; rfl
  | succ n ih =>
    intro r t25 t26 t27 l36
    have e : (fun t25 t26 t27 l36 => b_cat_1 F n (r + 1) (st_cat_1 t25 t26 t27 l36) K) = w_cat_1 F  (fun t25 t26 t27 l36 => K (.exit 2) (st_cat_1 t25 t26 t27 l36)) n := by
      funext t25 t26 t27 l36
      exact ih (r + 1) t25 t26 t27 l36
    rw [step_cat_1, e]
    rfl
theorem nl_cat_1 (F : Nat) (Post : AVal UU → Prop) (t25 : List (List Rect)) (t26 t27 : Int) (l36 : List Rect) : b_cat_1 F F 0 (st_cat_1 t25 t26 t27 l36) (k_cat_1 F Post) = n_cat_1 F (fun r0 => Post (.new .rect r0)) t25 t26 t27 l36 := by
  rw [loop_cat_1]
  have h0 : (fun t25 t26 t27 l36 => k_cat_1 F Post (.exit 2) (st_cat_1 t25 t26 t27 l36)) = (fun t25 t26 t27 l36 => g_cat_c1_0 (fun r0 => Post (.new .rect r0)) t25 t26 t27 l36) := by
    funext t25 t26 t27 l36
    rw [cont_cat_1_0]
  rw [h0]
  rfl
theorem loop_cat_0 (F : Nat) (K : AEx → ASt UU → Prop) : ∀ (n r : Nat) (t0 : List (List Rect)) (t3 : Int) (t9 : List (List Rect)) (t10 t11 : Int), b_cat_0 F n r (st_cat_0 t0 t3 t9 t10 t11) K = w_cat_0 F  (fun t0 t3 t9 t10 t11 => K (.exit 0) (st_cat_0 t0 t3 t9 t10 t11)) n t0 t3 t9 t10 t11 := by
  intro n
  induction n with
  | zero => intros; rfl
  | succ n ih =>
    intro r t0 t3 t9 t10 t11
    have e : (fun t0 t3 t9 t10 t11 => b_cat_0 F n (r + 1) (st_cat_0 t0 t3 t9 t10 t11) K) = w_cat_0 F  (fun t0 t3 t9 t10 t11 => K (.exit 0) (st_cat_0 t0 t3 t9 t10 t11)) n := by
      funext t0 t3 t9 t10 t11
      exact ih (r + 1) t0 t3 t9 t10 t11
    rw [step_cat_0, e]
    rfl
theorem nl_cat_0 (F : Nat) (Post : AVal UU → Prop) (t0 : List (List Rect)) (t3 : Int) (t9 : List (List Rect)) (t10 t11 : Int) : b_cat_0 F F 0 (st_cat_0 t0 t3 t9 t10 t11) (k_cat_0 F Post) = n_cat_0 F (fun r0 => Post (.new .rect r0)) t0 t3 t9 t10 t11 := by
  rw [loop_cat_0]
  have e1 : (fun t25 t26 t27 l36 => b_cat_1 F F 0 (st_cat_1 t25 t26 t27 l36) (k_cat_1 F Post)) = (n_cat_1 F (fun r0 => Post (.new .rect r0))) := by
    funext t25 t26 t27 l36
    exact nl_cat_1 F Post t25 t26 t27 l36
  have h0 : (fun t0 t3 t9 t10 t11 => k_cat_0 F Post (.exit 0) (st_cat_0 t0 t3 t9 t10 t11)) = (fun t0 t3 t9 t10 t11 => g_cat_c0_0 (fun r0 => Post (.new .rect r0)) t0 t3 t9 t10 t11 (n_cat_1 F (fun r0 => Post (.new .rect r0)))) := by
    funext t0 t3 t9 t10 t11
    rw [cont_cat_0_0, e1]
  rw [h0]
  rfl
theorem exec_cat (F : Nat) (Post : AVal UU → Prop) (a0 : List (List Rect)) : exec C_fs Tryz.f43.ntmps M_cat F 0 (bo Tryz.f43) (initSt [.sl .rects a0]) (AEnds C_fs true Tryz.f43 Post) = w_cat F a0 (fun r0 => Post (.new .rect r0)) := by
  rw [entry_cat]
  have e0 : (fun t0 t3 t9 t10 t11 => b_cat_0 F F 0 (st_cat_0 t0 t3 t9 t10 t11) (k_cat_0 F Post)) = (n_cat_0 F (fun r0 => Post (.new .rect r0))) := by
    funext t0 t3 t9 t10 t11
    exact nl_cat_0 F Post t0 t3 t9 t10 t11
  rw [e0]
  rfl
def m_cat : Model UU
  | [.sl .rects a0] => some ([pre_cat a0], .new .rect (sp_cat a0))
  | _ => none
def C_cat : Cfg UU := C_fs.add 43 m_cat
theorem s_cat : SumOK C_cat := by
  refine s_fs.addD mixed (fn := Tryz.f43) (c := bo Tryz.f43) Tryz.func43 (by kernel_rfl) (by kernel_rfl) ?_
  intro xs cs r h hc
  unfold m_cat at h
  split at h
  · rename_i a0
    cases h
    obtain ⟨F, hF⟩ := ok_cat a0 hc
    refine ⟨by kernel_rfl, M_cat, F, true, ⟨?_⟩⟩
    rw [exec_cat]
    refine hF _ ?_
    rfl
  · cases h
end
end Go.Proofs.YteffpgliiilnjaaGreatDoor
namespace Go.Proofs.YteffpgliiilnjaaGreatDoor
open Go.Vm Go.RowKit
set_option linter.unusedVariables false
set_option maxRecDepth 100000
noncomputable section
def b_zai_0 (F n r : Nat) (S : ASt UU) (K : AEx → ASt UU → Prop) : Prop := iter (execG (inliner M_zai F 0 C_cat) C_cat Tryz.f15.ntmps M_zai F 0 (cL (cB (cS (cF (cS (cS (cS (bo Tryz.f15))))))))) (M_zai 0 0) n r S K
def k_zai_0 (F : Nat) (Post : AVal UU → Prop) : AEx → ASt UU → Prop := kBlock 0 (kSeq (inliner M_zai F 0 C_cat) C_cat Tryz.f15.ntmps M_zai F 0 (cS (cS (cS (cS (bo Tryz.f15))))) (AEnds C_cat true Tryz.f15 Post))
theorem step_zai_0 (F n r : Nat) (K : AEx → ASt UU → Prop) (t19 t20 : Int) (l31 : List Frm) (l32 : List Face) : b_zai_0 F (n + 1) r (st_zai_0 t19 t20 l31 l32) K = g_zai_s0 (fun t19 t20 l31 l32 => b_zai_0 F n (r + 1) (st_zai_0 t19 t20 l31 l32) K) (fun t19 t20 l31 l32 => K (.exit 0) (st_zai_0 t19 t20 l31 l32)) t19 t20 l31 l32 := by kernel_rfl
theorem cont_zai_0_0 (F : Nat) (Post : AVal UU → Prop) (t19 t20 : Int) (l31 : List Frm) (l32 : List Face) : k_zai_0 F Post (.exit 0) (st_zai_0 t19 t20 l31 l32) = g_zai_c0_0 (fun r0 r1 => Post (.tup [.new .face r0, .int .i64 r1])) t19 t20 l31 l32 := by kernel_rfl
theorem entry_zai (F : Nat) (Post : AVal UU → Prop) (qa qc qd : List Rect) (qb : List Bend) (a1 : Int) : exec C_cat Tryz.f15.ntmps M_zai F 0 (bo Tryz.f15) (initSt [.agg [.sl .rect qa, .sl .rect qc, .sl .rect qd, .sl .bend qb], .int .i64 a1]) (AEnds C_cat true Tryz.f15 Post) = g_zai_e qa qc qd qb a1 (fun r0 r1 => Post (.tup [.new .face r0, .int .i64 r1])) (fun t19 t20 l31 l32 => b_zai_0 F F 0 (st_zai_0 t19 t20 l31 l32) (k_zai_0 F Post)) := by kernel_rfl
theorem loop_zai_0 (F : Nat) (K : AEx → ASt UU → Prop) : ∀ (n r : Nat) (t19 t20 : Int) (l31 : List Frm) (l32 : List Face), b_zai_0 F n r (st_zai_0 t19 t20 l31 l32) K = w_zai_0 F  (fun t19 t20 l31 l32 => K (.exit 0) (st_zai_0 t19 t20 l31 l32)) n t19 t20 l31 l32 := by
  intro n
  induction n with
  | zero => intros; rfl
  | succ n ih =>
    intro r t19 t20 l31 l32
    have e : (fun t19 t20 l31 l32 => b_zai_0 F n (r + 1) (st_zai_0 t19 t20 l31 l32) K) = w_zai_0 F  (fun t19 t20 l31 l32 => K (.exit 0) (st_zai_0 t19 t20 l31 l32)) n := by
      funext t19 t20 l31 l32
      exact ih (r + 1) t19 t20 l31 l32
    rw [step_zai_0, e]
    rfl
theorem nl_zai_0 (F : Nat) (Post : AVal UU → Prop) (t19 t20 : Int) (l31 : List Frm) (l32 : List Face) : b_zai_0 F F 0 (st_zai_0 t19 t20 l31 l32) (k_zai_0 F Post) = n_zai_0 F (fun r0 r1 => Post (.tup [.new .face r0, .int .i64 r1])) t19 t20 l31 l32 := by
  rw [loop_zai_0]
  have h0 : (fun t19 t20 l31 l32 => k_zai_0 F Post (.exit 0) (st_zai_0 t19 t20 l31 l32)) = (fun t19 t20 l31 l32 => g_zai_c0_0 (fun r0 r1 => Post (.tup [.new .face r0, .int .i64 r1])) t19 t20 l31 l32) := by
    funext t19 t20 l31 l32
    rw [cont_zai_0_0]
  rw [h0]
  rfl
theorem exec_zai (F : Nat) (Post : AVal UU → Prop) (qa qc qd : List Rect) (qb : List Bend) (a1 : Int) : exec C_cat Tryz.f15.ntmps M_zai F 0 (bo Tryz.f15) (initSt [.agg [.sl .rect qa, .sl .rect qc, .sl .rect qd, .sl .bend qb], .int .i64 a1]) (AEnds C_cat true Tryz.f15 Post) = w_zai F qa qc qd qb a1 (fun r0 r1 => Post (.tup [.new .face r0, .int .i64 r1])) := by
  rw [entry_zai]
  have e0 : (fun t19 t20 l31 l32 => b_zai_0 F F 0 (st_zai_0 t19 t20 l31 l32) (k_zai_0 F Post)) = (n_zai_0 F (fun r0 r1 => Post (.tup [.new .face r0, .int .i64 r1]))) := by
    funext t19 t20 l31 l32
    exact nl_zai_0 F Post t19 t20 l31 l32
  rw [e0]
  rfl
def m_zai : Model UU
  | [.agg [.sl .rect qa, .sl .rect qc, .sl .rect qd, .sl .bend qb], .int .i64 a1] => some ([pre_zai qa qc qd qb a1], .tup [.new .face ((sp_zai qa qc qd qb a1).1), .int .i64 ((sp_zai qa qc qd qb a1).2)])
  | _ => none
def C_zai : Cfg UU := C_cat.add 15 m_zai
theorem s_zai : SumOK C_zai := by
  refine s_cat.addD mixed (fn := Tryz.f15) (c := bo Tryz.f15) Tryz.func15 (by kernel_rfl) (by kernel_rfl) ?_
  intro xs cs r h hc
  unfold m_zai at h
  split at h
  · rename_i qa qc qd qb a1
    cases h
    obtain ⟨F, hF⟩ := ok_zai qa qc qd qb a1 hc
    refine ⟨by kernel_rfl, M_zai, F, true, ⟨?_⟩⟩
    rw [exec_zai]
    refine hF _ ?_
    rfl
  · cases h
def b_zbq_0 (F n r : Nat) (S : ASt UU) (K : AEx → ASt UU → Prop) : Prop := iter (execG (inliner M_zbq F 0 C_zai) C_zai Tryz.f16.ntmps M_zbq F 0 (cL (cB (cS (cF (cS (cS (cS (cS (bo Tryz.f16)))))))))) (M_zbq 0 0) n r S K
def k_zbq_0 (F : Nat) (Post : AVal UU → Prop) : AEx → ASt UU → Prop := kBlock 0 (kSeq (inliner M_zbq F 0 C_zai) C_zai Tryz.f16.ntmps M_zbq F 0 (cS (cS (cS (cS (cS (bo Tryz.f16)))))) (AEnds C_zai false Tryz.f16 Post))
theorem step_zbq_0 (F n r : Nat) (K : AEx → ASt UU → Prop) (t6 : List Frr) (t9 : Int) (l34 : List Face) : b_zbq_0 F (n + 1) r (st_zbq_0 t6 t9 l34) K = g_zbq_s0 (fun t6 t9 l34 => b_zbq_0 F n (r + 1) (st_zbq_0 t6 t9 l34) K) (fun t6 t9 l34 => K (.exit 0) (st_zbq_0 t6 t9 l34)) t6 t9 l34 := by kernel_rfl
theorem cont_zbq_0_0 (F : Nat) (Post : AVal UU → Prop) (t6 : List Frr) (t9 : Int) (l34 : List Face) : k_zbq_0 F Post (.exit 0) (st_zbq_0 t6 t9 l34) = g_zbq_c0_0 (fun r0 r1 => Post (.tup [.sl .face r0, .int .i64 r1])) t6 t9 l34 := by kernel_rfl
theorem entry_zbq (F : Nat) (Post : AVal UU → Prop) (qa qc qd : List Rect) (qb : List Bend) (a1 : Int) : exec C_zai Tryz.f16.ntmps M_zbq F 0 (bo Tryz.f16) (initSt [.agg [.sl .rect qa, .sl .rect qc, .sl .rect qd, .sl .bend qb], .int .i64 a1]) (AEnds C_zai false Tryz.f16 Post) = g_zbq_e qa qc qd qb a1 (fun r0 r1 => Post (.tup [.sl .face r0, .int .i64 r1])) (fun t6 t9 l34 => b_zbq_0 F F 0 (st_zbq_0 t6 t9 l34) (k_zbq_0 F Post)) := by kernel_rfl
theorem loop_zbq_0 (F : Nat) (K : AEx → ASt UU → Prop) : ∀ (n r : Nat) (t6 : List Frr) (t9 : Int) (l34 : List Face), b_zbq_0 F n r (st_zbq_0 t6 t9 l34) K = w_zbq_0 F  (fun t6 t9 l34 => K (.exit 0) (st_zbq_0 t6 t9 l34)) n t6 t9 l34 := by
  intro n
  induction n with
  | zero => intros; rfl
  | succ n ih =>
    intro r t6 t9 l34
    have e : (fun t6 t9 l34 => b_zbq_0 F n (r + 1) (st_zbq_0 t6 t9 l34) K) = w_zbq_0 F  (fun t6 t9 l34 => K (.exit 0) (st_zbq_0 t6 t9 l34)) n := by
      funext t6 t9 l34
      exact ih (r + 1) t6 t9 l34
    rw [step_zbq_0, e]
    rfl
theorem nl_zbq_0 (F : Nat) (Post : AVal UU → Prop) (t6 : List Frr) (t9 : Int) (l34 : List Face) : b_zbq_0 F F 0 (st_zbq_0 t6 t9 l34) (k_zbq_0 F Post) = n_zbq_0 F (fun r0 r1 => Post (.tup [.sl .face r0, .int .i64 r1])) t6 t9 l34 := by
  rw [loop_zbq_0]
  have h0 : (fun t6 t9 l34 => k_zbq_0 F Post (.exit 0) (st_zbq_0 t6 t9 l34)) = (fun t6 t9 l34 => g_zbq_c0_0 (fun r0 r1 => Post (.tup [.sl .face r0, .int .i64 r1])) t6 t9 l34) := by
    funext t6 t9 l34
    rw [cont_zbq_0_0]
  rw [h0]
  rfl
theorem exec_zbq (F : Nat) (Post : AVal UU → Prop) (qa qc qd : List Rect) (qb : List Bend) (a1 : Int) : exec C_zai Tryz.f16.ntmps M_zbq F 0 (bo Tryz.f16) (initSt [.agg [.sl .rect qa, .sl .rect qc, .sl .rect qd, .sl .bend qb], .int .i64 a1]) (AEnds C_zai false Tryz.f16 Post) = w_zbq F qa qc qd qb a1 (fun r0 r1 => Post (.tup [.sl .face r0, .int .i64 r1])) := by
  rw [entry_zbq]
  have e0 : (fun t6 t9 l34 => b_zbq_0 F F 0 (st_zbq_0 t6 t9 l34) (k_zbq_0 F Post)) = (n_zbq_0 F (fun r0 r1 => Post (.tup [.sl .face r0, .int .i64 r1]))) := by
    funext t6 t9 l34
    exact nl_zbq_0 F Post t6 t9 l34
  rw [e0]
  rfl
def m_zbq : Model UU
  | [.agg [.sl .rect qa, .sl .rect qc, .sl .rect qd, .sl .bend qb], .int .i64 a1] => some ([pre_zbq qa qc qd qb a1], .tup [.sl .face ((sp_zbq qa qc qd qb a1).1), .int .i64 ((sp_zbq qa qc qd qb a1).2)])
  | _ => none
def C_zbq : Cfg UU := C_zai.add 16 m_zbq
theorem s_zbq : SumOK C_zbq := by
  refine s_zai.addD mixed (fn := Tryz.f16) (c := bo Tryz.f16) Tryz.func16 (by kernel_rfl) (by kernel_rfl) ?_
  intro xs cs r h hc
  unfold m_zbq at h
  split at h
  · rename_i qa qc qd qb a1
    cases h
    obtain ⟨F, hF⟩ := ok_zbq qa qc qd qb a1 hc
    refine ⟨by kernel_rfl, M_zbq, F, false, ⟨?_⟩⟩
    rw [exec_zbq]
    refine hF _ ?_
    rfl
  · cases h
def b_zk_0 (F n r : Nat) (S : ASt UU) (K : AEx → ASt UU → Prop) : Prop := iter (execG (inliner M_zk F 0 C_zbq) C_zbq Tryz.f17.ntmps M_zk F 0 (cL (cB (cS (cF (cS (cS (cS (cS (bo Tryz.f17)))))))))) (M_zk 0 0) n r S K
def k_zk_0 (F : Nat) (Post : AVal UU → Prop) : AEx → ASt UU → Prop := kBlock 0 (kSeq (inliner M_zk F 0 C_zbq) C_zbq Tryz.f17.ntmps M_zk F 0 (cS (cS (cS (cS (cS (bo Tryz.f17)))))) (AEnds C_zbq false Tryz.f17 Post))
theorem step_zk_0 (F n r : Nat) (K : AEx → ASt UU → Prop) (t5 t27 t28 : Int) (c2_0 c2_1 c2_2 : List Rect) (c2_3 : List Bend) (l49 : List Frm) (l50 : List Rect) (l51 : List Face) : b_zk_0 F (n + 1) r (st_zk_0 t5 t27 t28 c2_0 c2_1 c2_2 c2_3 l49 l50 l51) K = g_zk_s0 (fun t5 t27 t28 c2_0 c2_1 c2_2 c2_3 l49 l50 l51 => b_zk_0 F n (r + 1) (st_zk_0 t5 t27 t28 c2_0 c2_1 c2_2 c2_3 l49 l50 l51) K) (fun t5 t27 t28 c2_0 c2_1 c2_2 c2_3 l49 l50 l51 => K .ret (st_zk_0 t5 t27 t28 c2_0 c2_1 c2_2 c2_3 l49 l50 l51)) (fun t5 t27 t28 c2_0 c2_1 c2_2 c2_3 l49 l50 l51 => K (.exit 0) (st_zk_0 t5 t27 t28 c2_0 c2_1 c2_2 c2_3 l49 l50 l51)) t5 t27 t28 c2_0 c2_1 c2_2 c2_3 l49 l50 l51 := by kernel_rfl
theorem cont_zk_0_0 (F : Nat) (Post : AVal UU → Prop) (t5 t27 t28 : Int) (c2_0 c2_1 c2_2 : List Rect) (c2_3 : List Bend) (l49 : List Frm) (l50 : List Rect) (l51 : List Face) : k_zk_0 F Post .ret (st_zk_0 t5 t27 t28 c2_0 c2_1 c2_2 c2_3 l49 l50 l51) = g_zk_c0_0 (fun r0 r1 => Post (.tup [.sl .face r0, .int .i64 r1])) t5 t27 t28 c2_0 c2_1 c2_2 c2_3 l49 l50 l51 := by kernel_rfl
theorem cont_zk_0_1 (F : Nat) (Post : AVal UU → Prop) (t5 t27 t28 : Int) (c2_0 c2_1 c2_2 : List Rect) (c2_3 : List Bend) (l49 : List Frm) (l50 : List Rect) (l51 : List Face) : k_zk_0 F Post (.exit 0) (st_zk_0 t5 t27 t28 c2_0 c2_1 c2_2 c2_3 l49 l50 l51) = g_zk_c0_1 (fun r0 r1 => Post (.tup [.sl .face r0, .int .i64 r1])) t5 t27 t28 c2_0 c2_1 c2_2 c2_3 l49 l50 l51 := by kernel_rfl
theorem entry_zk (F : Nat) (Post : AVal UU → Prop) (qa qc qd : List Rect) (qb : List Bend) (a1 : Int) : exec C_zbq Tryz.f17.ntmps M_zk F 0 (bo Tryz.f17) (initSt [.agg [.sl .rect qa, .sl .rect qc, .sl .rect qd, .sl .bend qb], .int .i64 a1]) (AEnds C_zbq false Tryz.f17 Post) = g_zk_e qa qc qd qb a1 (fun r0 r1 => Post (.tup [.sl .face r0, .int .i64 r1])) (fun t5 t27 t28 c2_0 c2_1 c2_2 c2_3 l49 l50 l51 => b_zk_0 F F 0 (st_zk_0 t5 t27 t28 c2_0 c2_1 c2_2 c2_3 l49 l50 l51) (k_zk_0 F Post)) := by kernel_rfl
theorem loop_zk_0 (F : Nat) (K : AEx → ASt UU → Prop) : ∀ (n r : Nat) (t5 t27 t28 : Int) (c2_0 c2_1 c2_2 : List Rect) (c2_3 : List Bend) (l49 : List Frm) (l50 : List Rect) (l51 : List Face), b_zk_0 F n r (st_zk_0 t5 t27 t28 c2_0 c2_1 c2_2 c2_3 l49 l50 l51) K = w_zk_0 F  (fun t5 t27 t28 c2_0 c2_1 c2_2 c2_3 l49 l50 l51 => K .ret (st_zk_0 t5 t27 t28 c2_0 c2_1 c2_2 c2_3 l49 l50 l51)) (fun t5 t27 t28 c2_0 c2_1 c2_2 c2_3 l49 l50 l51 => K (.exit 0) (st_zk_0 t5 t27 t28 c2_0 c2_1 c2_2 c2_3 l49 l50 l51)) n t5 t27 t28 c2_0 c2_1 c2_2 c2_3 l49 l50 l51 := by
  intro n
  induction n with
  | zero => intros; rfl
  | succ n ih =>
    intro r t5 t27 t28 c2_0 c2_1 c2_2 c2_3 l49 l50 l51
    have e : (fun t5 t27 t28 c2_0 c2_1 c2_2 c2_3 l49 l50 l51 => b_zk_0 F n (r + 1) (st_zk_0 t5 t27 t28 c2_0 c2_1 c2_2 c2_3 l49 l50 l51) K) = w_zk_0 F  (fun t5 t27 t28 c2_0 c2_1 c2_2 c2_3 l49 l50 l51 => K .ret (st_zk_0 t5 t27 t28 c2_0 c2_1 c2_2 c2_3 l49 l50 l51)) (fun t5 t27 t28 c2_0 c2_1 c2_2 c2_3 l49 l50 l51 => K (.exit 0) (st_zk_0 t5 t27 t28 c2_0 c2_1 c2_2 c2_3 l49 l50 l51)) n := by
      funext t5 t27 t28 c2_0 c2_1 c2_2 c2_3 l49 l50 l51
      exact ih (r + 1) t5 t27 t28 c2_0 c2_1 c2_2 c2_3 l49 l50 l51
    rw [step_zk_0, e]
    rfl
theorem nl_zk_0 (F : Nat) (Post : AVal UU → Prop) (t5 t27 t28 : Int) (c2_0 c2_1 c2_2 : List Rect) (c2_3 : List Bend) (l49 : List Frm) (l50 : List Rect) (l51 : List Face) : b_zk_0 F F 0 (st_zk_0 t5 t27 t28 c2_0 c2_1 c2_2 c2_3 l49 l50 l51) (k_zk_0 F Post) = n_zk_0 F (fun r0 r1 => Post (.tup [.sl .face r0, .int .i64 r1])) t5 t27 t28 c2_0 c2_1 c2_2 c2_3 l49 l50 l51 := by
  rw [loop_zk_0]
  have h0 : (fun t5 t27 t28 c2_0 c2_1 c2_2 c2_3 l49 l50 l51 => k_zk_0 F Post .ret (st_zk_0 t5 t27 t28 c2_0 c2_1 c2_2 c2_3 l49 l50 l51)) = (fun t5 t27 t28 c2_0 c2_1 c2_2 c2_3 l49 l50 l51 => g_zk_c0_0 (fun r0 r1 => Post (.tup [.sl .face r0, .int .i64 r1])) t5 t27 t28 c2_0 c2_1 c2_2 c2_3 l49 l50 l51) := by
    funext t5 t27 t28 c2_0 c2_1 c2_2 c2_3 l49 l50 l51
    rw [cont_zk_0_0]
  have h1 : (fun t5 t27 t28 c2_0 c2_1 c2_2 c2_3 l49 l50 l51 => k_zk_0 F Post (.exit 0) (st_zk_0 t5 t27 t28 c2_0 c2_1 c2_2 c2_3 l49 l50 l51)) = (fun t5 t27 t28 c2_0 c2_1 c2_2 c2_3 l49 l50 l51 => g_zk_c0_1 (fun r0 r1 => Post (.tup [.sl .face r0, .int .i64 r1])) t5 t27 t28 c2_0 c2_1 c2_2 c2_3 l49 l50 l51) := by
    funext t5 t27 t28 c2_0 c2_1 c2_2 c2_3 l49 l50 l51
    rw [cont_zk_0_1]
  rw [h0, h1]
  rfl
theorem exec_zk (F : Nat) (Post : AVal UU → Prop) (qa qc qd : List Rect) (qb : List Bend) (a1 : Int) : exec C_zbq Tryz.f17.ntmps M_zk F 0 (bo Tryz.f17) (initSt [.agg [.sl .rect qa, .sl .rect qc, .sl .rect qd, .sl .bend qb], .int .i64 a1]) (AEnds C_zbq false Tryz.f17 Post) = w_zk F qa qc qd qb a1 (fun r0 r1 => Post (.tup [.sl .face r0, .int .i64 r1])) := by
  rw [entry_zk]
  have e0 : (fun t5 t27 t28 c2_0 c2_1 c2_2 c2_3 l49 l50 l51 => b_zk_0 F F 0 (st_zk_0 t5 t27 t28 c2_0 c2_1 c2_2 c2_3 l49 l50 l51) (k_zk_0 F Post)) = (n_zk_0 F (fun r0 r1 => Post (.tup [.sl .face r0, .int .i64 r1]))) := by
    funext t5 t27 t28 c2_0 c2_1 c2_2 c2_3 l49 l50 l51
    exact nl_zk_0 F Post t5 t27 t28 c2_0 c2_1 c2_2 c2_3 l49 l50 l51
  rw [e0]
  rfl
def m_zk : Model UU
  | [.agg [.sl .rect qa, .sl .rect qc, .sl .rect qd, .sl .bend qb], .int .i64 a1] => some ([pre_zk qa qc qd qb a1], .tup [.sl .face ((sp_zk qa qc qd qb a1).1), .int .i64 ((sp_zk qa qc qd qb a1).2)])
  | _ => none
def C_zk : Cfg UU := C_zbq.add 17 m_zk
theorem s_zk : SumOK C_zk := by
  refine s_zbq.addD mixed (fn := Tryz.f17) (c := bo Tryz.f17) Tryz.func17 (by kernel_rfl) (by kernel_rfl) ?_
  intro xs cs r h hc
  unfold m_zk at h
  split at h
  · rename_i qa qc qd qb a1
    cases h
    obtain ⟨F, hF⟩ := ok_zk qa qc qd qb a1 hc
    refine ⟨by kernel_rfl, M_zk, F, false, ⟨?_⟩⟩
    rw [exec_zk]
    refine hF _ ?_
    rfl
  · cases h
def b_zr_0 (F n r : Nat) (S : ASt UU) (K : AEx → ASt UU → Prop) : Prop := iter (execG (inliner M_zr F 0 C_zk) C_zk Tryz.f18.ntmps M_zr F 0 (cL (cB (cS (cF (cS (cS (cS (cS (cS (bo Tryz.f18))))))))))) (M_zr 0 0) n r S K
def k_zr_0 (F : Nat) (Post : AVal UU → Prop) : AEx → ASt UU → Prop := kBlock 0 (kSeq (inliner M_zr F 0 C_zk) C_zk Tryz.f18.ntmps M_zr F 0 (cS (cS (cS (cS (cS (cS (bo Tryz.f18))))))) (AEnds C_zk false Tryz.f18 Post))
theorem step_zr_0 (F n r : Nat) (K : AEx → ASt UU → Prop) (t5 : Int) (t6 : List Frr) (t10 : Int) (c2_0 c2_1 c2_2 : List Rect) (c2_3 : List Bend) (l121 : List Rect) (l122 : List Face) : b_zr_0 F (n + 1) r (st_zr_0 t5 t6 t10 c2_0 c2_1 c2_2 c2_3 l121 l122) K = g_zr_s0 (fun t5 t6 t10 c2_0 c2_1 c2_2 c2_3 l121 l122 => b_zr_0 F n (r + 1) (st_zr_0 t5 t6 t10 c2_0 c2_1 c2_2 c2_3 l121 l122) K) (fun t5 t6 t10 c2_0 c2_1 c2_2 c2_3 l121 l122 => K .ret (st_zr_0 t5 t6 t10 c2_0 c2_1 c2_2 c2_3 l121 l122)) (fun t5 t6 t10 c2_0 c2_1 c2_2 c2_3 l121 l122 => K (.exit 0) (st_zr_0 t5 t6 t10 c2_0 c2_1 c2_2 c2_3 l121 l122)) t5 t6 t10 c2_0 c2_1 c2_2 c2_3 l121 l122 := by kernel_rfl
theorem cont_zr_0_0 (F : Nat) (Post : AVal UU → Prop) (t5 : Int) (t6 : List Frr) (t10 : Int) (c2_0 c2_1 c2_2 : List Rect) (c2_3 : List Bend) (l121 : List Rect) (l122 : List Face) : k_zr_0 F Post .ret (st_zr_0 t5 t6 t10 c2_0 c2_1 c2_2 c2_3 l121 l122) = g_zr_c0_0 (fun r0 r1 => Post (.tup [.sl .face r0, .int .i64 r1])) t5 t6 t10 c2_0 c2_1 c2_2 c2_3 l121 l122 := by kernel_rfl
theorem cont_zr_0_1 (F : Nat) (Post : AVal UU → Prop) (t5 : Int) (t6 : List Frr) (t10 : Int) (c2_0 c2_1 c2_2 : List Rect) (c2_3 : List Bend) (l121 : List Rect) (l122 : List Face) : k_zr_0 F Post (.exit 0) (st_zr_0 t5 t6 t10 c2_0 c2_1 c2_2 c2_3 l121 l122) = g_zr_c0_1 (fun r0 r1 => Post (.tup [.sl .face r0, .int .i64 r1])) t5 t6 t10 c2_0 c2_1 c2_2 c2_3 l121 l122 := by kernel_rfl
theorem entry_zr (F : Nat) (Post : AVal UU → Prop) (qa qc qd : List Rect) (qb : List Bend) (a1 : Int) : exec C_zk Tryz.f18.ntmps M_zr F 0 (bo Tryz.f18) (initSt [.agg [.sl .rect qa, .sl .rect qc, .sl .rect qd, .sl .bend qb], .int .i64 a1]) (AEnds C_zk false Tryz.f18 Post) = g_zr_e qa qc qd qb a1 (fun r0 r1 => Post (.tup [.sl .face r0, .int .i64 r1])) (fun t5 t6 t10 c2_0 c2_1 c2_2 c2_3 l121 l122 => b_zr_0 F F 0 (st_zr_0 t5 t6 t10 c2_0 c2_1 c2_2 c2_3 l121 l122) (k_zr_0 F Post)) := by kernel_rfl
theorem loop_zr_0 (F : Nat) (K : AEx → ASt UU → Prop) : ∀ (n r : Nat) (t5 : Int) (t6 : List Frr) (t10 : Int) (c2_0 c2_1 c2_2 : List Rect) (c2_3 : List Bend) (l121 : List Rect) (l122 : List Face), b_zr_0 F n r (st_zr_0 t5 t6 t10 c2_0 c2_1 c2_2 c2_3 l121 l122) K = w_zr_0 F  (fun t5 t6 t10 c2_0 c2_1 c2_2 c2_3 l121 l122 => K .ret (st_zr_0 t5 t6 t10 c2_0 c2_1 c2_2 c2_3 l121 l122)) (fun t5 t6 t10 c2_0 c2_1 c2_2 c2_3 l121 l122 => K (.exit 0) (st_zr_0 t5 t6 t10 c2_0 c2_1 c2_2 c2_3 l121 l122)) n t5 t6 t10 c2_0 c2_1 c2_2 c2_3 l121 l122 := by
  intro n
  induction n with
  | zero => intros; rfl
  | succ n ih =>
    intro r t5 t6 t10 c2_0 c2_1 c2_2 c2_3 l121 l122
    have e : (fun t5 t6 t10 c2_0 c2_1 c2_2 c2_3 l121 l122 => b_zr_0 F n (r + 1) (st_zr_0 t5 t6 t10 c2_0 c2_1 c2_2 c2_3 l121 l122) K) = w_zr_0 F  (fun t5 t6 t10 c2_0 c2_1 c2_2 c2_3 l121 l122 => K .ret (st_zr_0 t5 t6 t10 c2_0 c2_1 c2_2 c2_3 l121 l122)) (fun t5 t6 t10 c2_0 c2_1 c2_2 c2_3 l121 l122 => K (.exit 0) (st_zr_0 t5 t6 t10 c2_0 c2_1 c2_2 c2_3 l121 l122)) n := by
      funext t5 t6 t10 c2_0 c2_1 c2_2 c2_3 l121 l122
      exact ih (r + 1) t5 t6 t10 c2_0 c2_1 c2_2 c2_3 l121 l122
    rw [step_zr_0, e]
    rfl
theorem nl_zr_0 (F : Nat) (Post : AVal UU → Prop) (t5 : Int) (t6 : List Frr) (t10 : Int) (c2_0 c2_1 c2_2 : List Rect) (c2_3 : List Bend) (l121 : List Rect) (l122 : List Face) : b_zr_0 F F 0 (st_zr_0 t5 t6 t10 c2_0 c2_1 c2_2 c2_3 l121 l122) (k_zr_0 F Post) = n_zr_0 F (fun r0 r1 => Post (.tup [.sl .face r0, .int .i64 r1])) t5 t6 t10 c2_0 c2_1 c2_2 c2_3 l121 l122 := by
  rw [loop_zr_0]
  have h0 : (fun t5 t6 t10 c2_0 c2_1 c2_2 c2_3 l121 l122 => k_zr_0 F Post .ret (st_zr_0 t5 t6 t10 c2_0 c2_1 c2_2 c2_3 l121 l122)) = (fun t5 t6 t10 c2_0 c2_1 c2_2 c2_3 l121 l122 => g_zr_c0_0 (fun r0 r1 => Post (.tup [.sl .face r0, .int .i64 r1])) t5 t6 t10 c2_0 c2_1 c2_2 c2_3 l121 l122) := by
    funext t5 t6 t10 c2_0 c2_1 c2_2 c2_3 l121 l122
    rw [cont_zr_0_0]
  have h1 : (fun t5 t6 t10 c2_0 c2_1 c2_2 c2_3 l121 l122 => k_zr_0 F Post (.exit 0) (st_zr_0 t5 t6 t10 c2_0 c2_1 c2_2 c2_3 l121 l122)) = (fun t5 t6 t10 c2_0 c2_1 c2_2 c2_3 l121 l122 => g_zr_c0_1 (fun r0 r1 => Post (.tup [.sl .face r0, .int .i64 r1])) t5 t6 t10 c2_0 c2_1 c2_2 c2_3 l121 l122) := by
    funext t5 t6 t10 c2_0 c2_1 c2_2 c2_3 l121 l122
    rw [cont_zr_0_1]
  rw [h0, h1]
  rfl
theorem exec_zr (F : Nat) (Post : AVal UU → Prop) (qa qc qd : List Rect) (qb : List Bend) (a1 : Int) : exec C_zk Tryz.f18.ntmps M_zr F 0 (bo Tryz.f18) (initSt [.agg [.sl .rect qa, .sl .rect qc, .sl .rect qd, .sl .bend qb], .int .i64 a1]) (AEnds C_zk false Tryz.f18 Post) = w_zr F qa qc qd qb a1 (fun r0 r1 => Post (.tup [.sl .face r0, .int .i64 r1])) := by
  rw [entry_zr]
  have e0 : (fun t5 t6 t10 c2_0 c2_1 c2_2 c2_3 l121 l122 => b_zr_0 F F 0 (st_zr_0 t5 t6 t10 c2_0 c2_1 c2_2 c2_3 l121 l122) (k_zr_0 F Post)) = (n_zr_0 F (fun r0 r1 => Post (.tup [.sl .face r0, .int .i64 r1]))) := by
    funext t5 t6 t10 c2_0 c2_1 c2_2 c2_3 l121 l122
    exact nl_zr_0 F Post t5 t6 t10 c2_0 c2_1 c2_2 c2_3 l121 l122
  rw [e0]
  rfl
def m_zr : Model UU
  | [.agg [.sl .rect qa, .sl .rect qc, .sl .rect qd, .sl .bend qb], .int .i64 a1] => some ([pre_zr qa qc qd qb a1], .tup [.sl .face ((sp_zr qa qc qd qb a1).1), .int .i64 ((sp_zr qa qc qd qb a1).2)])
  | _ => none
def C_zr : Cfg UU := C_zk.add 18 m_zr
theorem s_zr : SumOK C_zr := by
  refine s_zk.addD mixed (fn := Tryz.f18) (c := bo Tryz.f18) Tryz.func18 (by kernel_rfl) (by kernel_rfl) ?_
  intro xs cs r h hc
  unfold m_zr at h
  split at h
  · rename_i qa qc qd qb a1
    cases h
    obtain ⟨F, hF⟩ := ok_zr qa qc qd qb a1 hc
    refine ⟨by kernel_rfl, M_zr, F, false, ⟨?_⟩⟩
    rw [exec_zr]
    refine hF _ ?_
    rfl
  · cases h
end
end Go.Proofs.YteffpgliiilnjaaGreatDoor
namespace Go.Proofs.YteffpgliiilnjaaGreatDoor
open Go.Vm Go.RowKit
set_option linter.unusedVariables false
set_option maxRecDepth 100000
noncomputable section
theorem entry_zf (F : Nat) (Post : AVal UU → Prop) (qa qc qd : List Rect) (qb : List Bend) (a1 : Int) : exec C_zr Tryz.f5.ntmps M_zf F 0 (bo Tryz.f5) (initSt [.agg [.sl .rect qa, .sl .rect qc, .sl .rect qd, .sl .bend qb], .int .i64 a1]) (AEnds C_zr false Tryz.f5 Post) = g_zf_e qa qc qd qb a1 (fun r0 => Post (.bool r0)) := by kernel_rfl
theorem exec_zf (F : Nat) (Post : AVal UU → Prop) (qa qc qd : List Rect) (qb : List Bend) (a1 : Int) : exec C_zr Tryz.f5.ntmps M_zf F 0 (bo Tryz.f5) (initSt [.agg [.sl .rect qa, .sl .rect qc, .sl .rect qd, .sl .bend qb], .int .i64 a1]) (AEnds C_zr false Tryz.f5 Post) = w_zf F qa qc qd qb a1 (fun r0 => Post (.bool r0)) := by
  rw [entry_zf]
  rfl
end
end Go.Proofs.YteffpgliiilnjaaGreatDoor
