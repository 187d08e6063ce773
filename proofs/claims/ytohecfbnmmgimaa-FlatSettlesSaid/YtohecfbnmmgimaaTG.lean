/- That the code says what the printed pieces say, by the kernel; printed by gen.py. Conditions: none. -/
import Derived.Test.YtohecfbnmmgimaaGG
import Derived.Test.YtohecfbnmmgimaaTF
namespace Go.Proofs.Ytohecfbnmmgimaa
open Go.Vm Go.RowKit
set_option linter.unusedVariables false
noncomputable section
set_option maxRecDepth 100000 in
theorem entry_flat_Deduction (F : Nat) (Post : AVal UU → Prop) (a0_Material : ByteArray) (a0_Gauge : Int) (a0_Die : Int) (a0_Entries : List Ent) (a1 : Int) : exec C_ref03_deduction Try.f18.ntmps M_flat_Deduction F 0 (bo Try.f18) (initSt [.agg [.str a0_Material, .int .i64 a0_Gauge, .int .i64 a0_Die, .sl .ent a0_Entries], .int .i64 a1]) (AEnds C_ref03_deduction false Try.f18 Post) = g_flat_Deduction_e a0_Material a0_Gauge a0_Die a0_Entries a1 (fun r0_Num r0_Den r1 => Post (.tup [.agg [.int .i64 r0_Num, .int .i64 r0_Den], .int .i64 r1])) := by kernel_rfl
theorem exec_flat_Deduction (F : Nat) (Post : AVal UU → Prop) (a0_Material : ByteArray) (a0_Gauge : Int) (a0_Die : Int) (a0_Entries : List Ent) (a1 : Int) : exec C_ref03_deduction Try.f18.ntmps M_flat_Deduction F 0 (bo Try.f18) (initSt [.agg [.str a0_Material, .int .i64 a0_Gauge, .int .i64 a0_Die, .sl .ent a0_Entries], .int .i64 a1]) (AEnds C_ref03_deduction false Try.f18 Post) = w_flat_Deduction F a0_Material a0_Gauge a0_Die a0_Entries a1 (fun r0_Num r0_Den r1 => Post (.tup [.agg [.int .i64 r0_Num, .int .i64 r0_Den], .int .i64 r1])) := by
  rw [entry_flat_Deduction]
  rfl
def m_flat_Deduction : Model UU
  | [.agg [.str a0_Material, .int .i64 a0_Gauge, .int .i64 a0_Die, .sl .ent a0_Entries], .int .i64 a1] => some ([pre_flat_Deduction a0_Material a0_Gauge a0_Die a0_Entries a1], .tup [.agg [.int .i64 ((sp_flat_Deduction a0_Material a0_Gauge a0_Die a0_Entries a1).1), .int .i64 ((sp_flat_Deduction a0_Material a0_Gauge a0_Die a0_Entries a1).2.1)], .int .i64 ((sp_flat_Deduction a0_Material a0_Gauge a0_Die a0_Entries a1).2.2)])
  | _ => none
def C_flat_Deduction : Cfg UU := C_ref03_deduction.add 18 m_flat_Deduction
theorem s_flat_Deduction : SumOK C_flat_Deduction := by
  refine s_ref03_deduction.addD mixed (fn := Try.f18) (c := bo Try.f18) Try.func18 (by kernel_rfl) (by kernel_rfl) ?_
  intro xs cs r h hc
  unfold m_flat_Deduction at h
  split at h
  · rename_i a0_Material a0_Gauge a0_Die a0_Entries a1
    cases h
    obtain ⟨F, hF⟩ := ok_flat_Deduction a0_Material a0_Gauge a0_Die a0_Entries a1 hc
    refine ⟨by kernel_rfl, M_flat_Deduction, F, false, ⟨?_⟩⟩
    rw [exec_flat_Deduction]
    refine hF _ ?_
    rfl
  · cases h
set_option maxRecDepth 100000 in
theorem entry_ref03_Deduction (F : Nat) (Post : AVal UU → Prop) (a0_Material : ByteArray) (a0_Gauge : Int) (a0_Die : Int) (a0_Entries : List Ent) (a1 : Int) : exec C_flat_Deduction Try.f19.ntmps M_ref03_Deduction F 0 (bo Try.f19) (initSt [.agg [.str a0_Material, .int .i64 a0_Gauge, .int .i64 a0_Die, .sl .ent a0_Entries], .int .i64 a1]) (AEnds C_flat_Deduction false Try.f19 Post) = g_ref03_Deduction_e a0_Material a0_Gauge a0_Die a0_Entries a1 (fun r0_Num r0_Den r1 => Post (.tup [.agg [.int .i64 r0_Num, .int .i64 r0_Den], .int .i64 r1])) := by kernel_rfl
theorem exec_ref03_Deduction (F : Nat) (Post : AVal UU → Prop) (a0_Material : ByteArray) (a0_Gauge : Int) (a0_Die : Int) (a0_Entries : List Ent) (a1 : Int) : exec C_flat_Deduction Try.f19.ntmps M_ref03_Deduction F 0 (bo Try.f19) (initSt [.agg [.str a0_Material, .int .i64 a0_Gauge, .int .i64 a0_Die, .sl .ent a0_Entries], .int .i64 a1]) (AEnds C_flat_Deduction false Try.f19 Post) = w_ref03_Deduction F a0_Material a0_Gauge a0_Die a0_Entries a1 (fun r0_Num r0_Den r1 => Post (.tup [.agg [.int .i64 r0_Num, .int .i64 r0_Den], .int .i64 r1])) := by
  rw [entry_ref03_Deduction]
  rfl
def m_ref03_Deduction : Model UU
  | [.agg [.str a0_Material, .int .i64 a0_Gauge, .int .i64 a0_Die, .sl .ent a0_Entries], .int .i64 a1] => some ([pre_ref03_Deduction a0_Material a0_Gauge a0_Die a0_Entries a1], .tup [.agg [.int .i64 ((sp_ref03_Deduction a0_Material a0_Gauge a0_Die a0_Entries a1).1), .int .i64 ((sp_ref03_Deduction a0_Material a0_Gauge a0_Die a0_Entries a1).2.1)], .int .i64 ((sp_ref03_Deduction a0_Material a0_Gauge a0_Die a0_Entries a1).2.2)])
  | _ => none
def C_ref03_Deduction : Cfg UU := C_flat_Deduction.add 19 m_ref03_Deduction
theorem s_ref03_Deduction : SumOK C_ref03_Deduction := by
  refine s_flat_Deduction.addD mixed (fn := Try.f19) (c := bo Try.f19) Try.func19 (by kernel_rfl) (by kernel_rfl) ?_
  intro xs cs r h hc
  unfold m_ref03_Deduction at h
  split at h
  · rename_i a0_Material a0_Gauge a0_Die a0_Entries a1
    cases h
    obtain ⟨F, hF⟩ := ok_ref03_Deduction a0_Material a0_Gauge a0_Die a0_Entries a1 hc
    refine ⟨by kernel_rfl, M_ref03_Deduction, F, false, ⟨?_⟩⟩
    rw [exec_ref03_Deduction]
    refine hF _ ?_
    rfl
  · cases h
set_option maxRecDepth 100000 in
theorem entry_law03_Wide (F : Nat) (Post : AVal UU → Prop) (a0_Material : ByteArray) (a0_Gauge : Int) (a0_Die : Int) (a0_Entries : List Ent) : exec C_ref03_Deduction Try.f17.ntmps M_law03_Wide F 0 (bo Try.f17) (initSt [.agg [.str a0_Material, .int .i64 a0_Gauge, .int .i64 a0_Die, .sl .ent a0_Entries]]) (AEnds C_ref03_Deduction false Try.f17 Post) = g_law03_Wide_e a0_Material a0_Gauge a0_Die a0_Entries (fun r0 => Post (.bool r0)) := by kernel_rfl
theorem exec_law03_Wide (F : Nat) (Post : AVal UU → Prop) (a0_Material : ByteArray) (a0_Gauge : Int) (a0_Die : Int) (a0_Entries : List Ent) : exec C_ref03_Deduction Try.f17.ntmps M_law03_Wide F 0 (bo Try.f17) (initSt [.agg [.str a0_Material, .int .i64 a0_Gauge, .int .i64 a0_Die, .sl .ent a0_Entries]]) (AEnds C_ref03_Deduction false Try.f17 Post) = w_law03_Wide F a0_Material a0_Gauge a0_Die a0_Entries (fun r0 => Post (.bool r0)) := by
  rw [entry_law03_Wide]
  rfl
def m_law03_Wide : Model UU
  | [.agg [.str a0_Material, .int .i64 a0_Gauge, .int .i64 a0_Die, .sl .ent a0_Entries]] => some ([], .bool (sp_law03_Wide a0_Material a0_Gauge a0_Die a0_Entries))
  | _ => none
def C_law03_Wide : Cfg UU := C_ref03_Deduction.add 17 m_law03_Wide
theorem s_law03_Wide : SumOK C_law03_Wide := by
  refine s_ref03_Deduction.addD mixed (fn := Try.f17) (c := bo Try.f17) Try.func17 (by kernel_rfl) (by kernel_rfl) ?_
  intro xs cs r h hc
  unfold m_law03_Wide at h
  split at h
  · rename_i a0_Material a0_Gauge a0_Die a0_Entries
    cases h
    obtain ⟨F, hF⟩ := ok_law03_Wide a0_Material a0_Gauge a0_Die a0_Entries
    refine ⟨by kernel_rfl, M_law03_Wide, F, false, ⟨?_⟩⟩
    rw [exec_law03_Wide]
    refine hF _ ?_
    rfl
  · cases h
set_option maxRecDepth 100000 in
theorem entry_law03_known (F : Nat) (Post : AVal UU → Prop)  : exec C_law03_Wide Try.f9.ntmps M_law03_known F 0 (bo Try.f9) (initSt []) (AEnds C_law03_Wide false Try.f9 Post) = g_law03_known_e  (fun r0 => Post (.bool r0)) := by kernel_rfl
theorem exec_law03_known (F : Nat) (Post : AVal UU → Prop)  : exec C_law03_Wide Try.f9.ntmps M_law03_known F 0 (bo Try.f9) (initSt []) (AEnds C_law03_Wide false Try.f9 Post) = w_law03_known F  (fun r0 => Post (.bool r0)) := by
  rw [entry_law03_known]
  rfl
def m_law03_known : Model UU
  | [] => some ([pre_law03_known ], .bool sp_law03_known)
  | _ => none
def C_law03_known : Cfg UU := C_law03_Wide.add 9 m_law03_known
theorem s_law03_known : SumOK C_law03_known := by
  refine s_law03_Wide.addD mixed (fn := Try.f9) (c := bo Try.f9) Try.func9 (by kernel_rfl) (by kernel_rfl) ?_
  intro xs cs r h hc
  unfold m_law03_known at h
  split at h
  · cases h
    obtain ⟨F, hF⟩ := ok_law03_known  hc
    refine ⟨by kernel_rfl, M_law03_known, F, false, ⟨?_⟩⟩
    rw [exec_law03_known]
    refine hF _ ?_
    rfl
  · cases h
end
end Go.Proofs.Ytohecfbnmmgimaa
