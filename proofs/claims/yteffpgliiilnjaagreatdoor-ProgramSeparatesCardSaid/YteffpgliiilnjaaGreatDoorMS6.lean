/- Texts of this proof, one behind another: That the code says what the printed pieces say, by the kernel; printed by gen.py. Conditio; That the code says what the printed pieces say, by the kernel; printed by gen.py. Conditio; slices.Clone of lines and of rectangles: a new slice of the same elements. Conditions: non; errors.As at a refusal, and program.code: the refusal's code. Conditions: none.; errors.As at a refusal, and program.code: the refusal's code (the walks). Conditions: none; program.orderLines: the order of lines; cmp.Or, cmp.Compare. Conditions: none.; program.orderLines: the order of lines. Conditions: none.; DERIVED: THE SHELF's CONTRACTS AT THIS DUMP, IN PLAIN WORDS (tools/lay-plain.mjs out of 'T; slices.SortFunc at lines and their order: it puts the own row in order. Conditions: none.; Summaries by hand: slices.Clone, slices.SortFunc, errors.As by program.code, program.diale; That the code says what the printed pieces say, by the kernel; printed by gen.py. Conditio; That the code says what the printed pieces say, by the kernel; printed by gen.py. Conditio; That the code says what the printed pieces say, by the kernel; printed by gen.py. Conditio; That the code says what the printed pieces say, by the kernel; printed by gen.py. Conditio; That the code says what the printed pieces say, by the kernel; printed by gen.py. Conditio; That the code says what the printed pieces say, by the kernel; printed by gen.py. Conditio; That the code says what the printed pieces say, by the kernel; printed by gen.py. Con. Conditions: none. -/
import Derived.Test.YteffpgliiilnjaaGreatDoorMS4
import Derived.Test.YteffpgliiilnjaaGreatDoorMS5
import Derived.WalkKit
import Derived.OwnWalk
import Derived.Lib.Walk
import Derived.Lib.SliceRun
import Derived.Deep.LoopGhost
import Derived.LaidEql
import Derived.RowKitTokens
import Derived.Deep.RegionHeld3
import Derived.Shelf.SlSortCmp.QuietGrown
import Derived.Ground.SlsfProg
import Derived.Shelf.SlSortCmp.NoneTotal
import Derived.Test.YteffpgliiilnjaaGreatDoorProg
import Derived.Lib.OwnBridge
namespace Go.Proofs.YteffpgliiilnjaaGreatDoor
open Go.Vm Go.RowKit
set_option linter.unusedVariables false
set_option maxRecDepth 100000
noncomputable section
theorem entry_do1 (F : Nat) (Post : AVal UU → Prop) (a_0 a_1 a_2 a_3 c_0 c_1 c_2 c_3 : Int) : exec C_zj Tryz.f84.ntmps M_do1 F 0 (bo Tryz.f84) (initSt [.agg [.int .i64 a_0, .int .i64 a_1, .int .i64 a_2, .int .i64 a_3], .ref [.int .i64 c_0, .int .i64 c_1, .int .i64 c_2, .int .i64 c_3] 0]) (AEnds C_zj false Tryz.f84 Post) = g_do1_e a_0 a_1 a_2 a_3 c_0 c_1 c_2 c_3 (fun r0 => Post (.bool r0)) := by kernel_rfl
theorem exec_do1 (F : Nat) (Post : AVal UU → Prop) (a_0 a_1 a_2 a_3 c_0 c_1 c_2 c_3 : Int) : exec C_zj Tryz.f84.ntmps M_do1 F 0 (bo Tryz.f84) (initSt [.agg [.int .i64 a_0, .int .i64 a_1, .int .i64 a_2, .int .i64 a_3], .ref [.int .i64 c_0, .int .i64 c_1, .int .i64 c_2, .int .i64 c_3] 0]) (AEnds C_zj false Tryz.f84 Post) = w_do1 F a_0 a_1 a_2 a_3 c_0 c_1 c_2 c_3 (fun r0 => Post (.bool r0)) := by
 rw [entry_do1]
 rfl
def m_do1 : Model UU
 | [.agg [.int .i64 a_0, .int .i64 a_1, .int .i64 a_2, .int .i64 a_3], .ref [.int .i64 c_0, .int .i64 c_1, .int .i64 c_2, .int .i64 c_3] 0] => some ([], .bool (sp_do1 a_0 a_1 a_2 a_3 c_0 c_1 c_2 c_3))
 | _ => none
def C_do1 : Cfg UU := C_zj.add 84 m_do1
theorem s_do1 : SumOK C_do1 := by
 refine s_zj.addD mixed (fn := Tryz.f84) (c := bo Tryz.f84) Tryz.func84 (by kernel_rfl) (by kernel_rfl) ?_
 intro xs cs r h hc
 unfold m_do1 at h
 split at h
 ·rename_i a_0 a_1 a_2 a_3 c_0 c_1 c_2 c_3
  cases h
  obtain ⟨F, hF⟩ := ok_do1 a_0 a_1 a_2 a_3 c_0 c_1 c_2 c_3
  refine ⟨by kernel_rfl, M_do1, F, false, ⟨?_⟩⟩
  rw [exec_do1]
  refine hF _ ?_
  rfl
 ·cases h
def b_ixf1_0 (F n r : Nat) (S : ASt UU) (K : AEx → ASt UU → Prop) : Prop := iter (execG (inliner M_ixf1 F 0 C_do1) C_do1 Tryz.f44.ntmps M_ixf1 F 0 (cL (cB (cS (cF (cS (bo Tryz.f44))))))) (M_ixf1 0 0) n r S K
def k_ixf1_0 (F : Nat) (Post : AVal UU → Prop) : AEx → ASt UU → Prop := kBlock 0 (kSeq (inliner M_ixf1 F 0 C_do1) C_do1 Tryz.f44.ntmps M_ixf1 F 0 (cS (cS (bo Tryz.f44))) (AEnds C_do1 false Tryz.f44 Post))
theorem step_ixf1_0 (F n r : Nat) (K : AEx → ASt UU → Prop) (t0 : List Rect) (t1_0_0 t1_0_1 t1_0_2 t1_0_3 t4 t7 t8 : Int) : b_ixf1_0 F (n + 1) r (st_ixf1_0 t0 t1_0_0 t1_0_1 t1_0_2 t1_0_3 t4 t7 t8) K = g_ixf1_s0 (fun t0 t1_0_0 t1_0_1 t1_0_2 t1_0_3 t4 t7 t8 => b_ixf1_0 F n (r + 1) (st_ixf1_0 t0 t1_0_0 t1_0_1 t1_0_2 t1_0_3 t4 t7 t8) K) (fun t0 t1_0_0 t1_0_1 t1_0_2 t1_0_3 t4 t7 t8 => K .ret (st_ixf1_0 t0 t1_0_0 t1_0_1 t1_0_2 t1_0_3 t4 t7 t8)) (fun t0 t1_0_0 t1_0_1 t1_0_2 t1_0_3 t4 t7 t8 => K (.exit 0) (st_ixf1_0 t0 t1_0_0 t1_0_1 t1_0_2 t1_0_3 t4 t7 t8)) t0 t1_0_0 t1_0_1 t1_0_2 t1_0_3 t4 t7 t8 := by kernel_rfl
theorem cont_ixf1_0_0 (F : Nat) (Post : AVal UU → Prop) (t0 : List Rect) (t1_0_0 t1_0_1 t1_0_2 t1_0_3 t4 t7 t8 : Int) : k_ixf1_0 F Post .ret (st_ixf1_0 t0 t1_0_0 t1_0_1 t1_0_2 t1_0_3 t4 t7 t8) = g_ixf1_c0_0 (fun r0 => Post (.int .i64 r0)) t0 t1_0_0 t1_0_1 t1_0_2 t1_0_3 t4 t7 t8 := by kernel_rfl
theorem cont_ixf1_0_1 (F : Nat) (Post : AVal UU → Prop) (t0 : List Rect) (t1_0_0 t1_0_1 t1_0_2 t1_0_3 t4 t7 t8 : Int) : k_ixf1_0 F Post (.exit 0) (st_ixf1_0 t0 t1_0_0 t1_0_1 t1_0_2 t1_0_3 t4 t7 t8) = g_ixf1_c0_1 (fun r0 => Post (.int .i64 r0)) t0 t1_0_0 t1_0_1 t1_0_2 t1_0_3 t4 t7 t8 := by kernel_rfl
theorem entry_ixf1 (F : Nat) (Post : AVal UU → Prop) (l : List Rect) (c_0 c_1 c_2 c_3 : Int) : exec C_do1 Tryz.f44.ntmps M_ixf1 F 0 (bo Tryz.f44) (initSt [.sl .rect l, .fn 84 [.ref [.int .i64 c_0, .int .i64 c_1, .int .i64 c_2, .int .i64 c_3] 0]]) (AEnds C_do1 false Tryz.f44 Post) = g_ixf1_e l c_0 c_1 c_2 c_3 (fun r0 => Post (.int .i64 r0)) (fun t0 t1_0_0 t1_0_1 t1_0_2 t1_0_3 t4 t7 t8 => b_ixf1_0 F F 0 (st_ixf1_0 t0 t1_0_0 t1_0_1 t1_0_2 t1_0_3 t4 t7 t8) (k_ixf1_0 F Post)) := by kernel_rfl
theorem loop_ixf1_0 (F : Nat) (K : AEx → ASt UU → Prop) : ∀ (n r : Nat) (t0 : List Rect) (t1_0_0 t1_0_1 t1_0_2 t1_0_3 t4 t7 t8 : Int), b_ixf1_0 F n r (st_ixf1_0 t0 t1_0_0 t1_0_1 t1_0_2 t1_0_3 t4 t7 t8) K = w_ixf1_0 F  (fun t0 t1_0_0 t1_0_1 t1_0_2 t1_0_3 t4 t7 t8 => K .ret (st_ixf1_0 t0 t1_0_0 t1_0_1 t1_0_2 t1_0_3 t4 t7 t8)) (fun t0 t1_0_0 t1_0_1 t1_0_2 t1_0_3 t4 t7 t8 => K (.exit 0) (st_ixf1_0 t0 t1_0_0 t1_0_1 t1_0_2 t1_0_3 t4 t7 t8)) n t0 t1_0_0 t1_0_1 t1_0_2 t1_0_3 t4 t7 t8 := by
 intro n
 induction n with
 | zero => intros; rfl
 | succ n ih =>
  intro r t0 t1_0_0 t1_0_1 t1_0_2 t1_0_3 t4 t7 t8
  have e : (fun t0 t1_0_0 t1_0_1 t1_0_2 t1_0_3 t4 t7 t8 => b_ixf1_0 F n (r + 1) (st_ixf1_0 t0 t1_0_0 t1_0_1 t1_0_2 t1_0_3 t4 t7 t8) K) = w_ixf1_0 F  (fun t0 t1_0_0 t1_0_1 t1_0_2 t1_0_3 t4 t7 t8 => K .ret (st_ixf1_0 t0 t1_0_0 t1_0_1 t1_0_2 t1_0_3 t4 t7 t8)) (fun t0 t1_0_0 t1_0_1 t1_0_2 t1_0_3 t4 t7 t8 => K (.exit 0) (st_ixf1_0 t0 t1_0_0 t1_0_1 t1_0_2 t1_0_3 t4 t7 t8)) n := by
   funext t0 t1_0_0 t1_0_1 t1_0_2 t1_0_3 t4 t7 t8
   exact ih (r + 1) t0 t1_0_0 t1_0_1 t1_0_2 t1_0_3 t4 t7 t8
  rw [step_ixf1_0, e]
  rfl
theorem nl_ixf1_0 (F : Nat) (Post : AVal UU → Prop) (t0 : List Rect) (t1_0_0 t1_0_1 t1_0_2 t1_0_3 t4 t7 t8 : Int) : b_ixf1_0 F F 0 (st_ixf1_0 t0 t1_0_0 t1_0_1 t1_0_2 t1_0_3 t4 t7 t8) (k_ixf1_0 F Post) = n_ixf1_0 F (fun r0 => Post (.int .i64 r0)) t0 t1_0_0 t1_0_1 t1_0_2 t1_0_3 t4 t7 t8 := by
 rw [loop_ixf1_0]
 have h0 : (fun t0 t1_0_0 t1_0_1 t1_0_2 t1_0_3 t4 t7 t8 => k_ixf1_0 F Post .ret (st_ixf1_0 t0 t1_0_0 t1_0_1 t1_0_2 t1_0_3 t4 t7 t8)) = (fun t0 t1_0_0 t1_0_1 t1_0_2 t1_0_3 t4 t7 t8 => g_ixf1_c0_0 (fun r0 => Post (.int .i64 r0)) t0 t1_0_0 t1_0_1 t1_0_2 t1_0_3 t4 t7 t8) := by
  funext t0 t1_0_0 t1_0_1 t1_0_2 t1_0_3 t4 t7 t8
  rw [cont_ixf1_0_0]
 have h1 : (fun t0 t1_0_0 t1_0_1 t1_0_2 t1_0_3 t4 t7 t8 => k_ixf1_0 F Post (.exit 0) (st_ixf1_0 t0 t1_0_0 t1_0_1 t1_0_2 t1_0_3 t4 t7 t8)) = (fun t0 t1_0_0 t1_0_1 t1_0_2 t1_0_3 t4 t7 t8 => g_ixf1_c0_1 (fun r0 => Post (.int .i64 r0)) t0 t1_0_0 t1_0_1 t1_0_2 t1_0_3 t4 t7 t8) := by
  funext t0 t1_0_0 t1_0_1 t1_0_2 t1_0_3 t4 t7 t8
  rw [cont_ixf1_0_1]
 rw [h0, h1]
 rfl
theorem exec_ixf1 (F : Nat) (Post : AVal UU → Prop) (l : List Rect) (c_0 c_1 c_2 c_3 : Int) : exec C_do1 Tryz.f44.ntmps M_ixf1 F 0 (bo Tryz.f44) (initSt [.sl .rect l, .fn 84 [.ref [.int .i64 c_0, .int .i64 c_1, .int .i64 c_2, .int .i64 c_3] 0]]) (AEnds C_do1 false Tryz.f44 Post) = w_ixf1 F l c_0 c_1 c_2 c_3 (fun r0 => Post (.int .i64 r0)) := by
 rw [entry_ixf1]
 have e0 : (fun t0 t1_0_0 t1_0_1 t1_0_2 t1_0_3 t4 t7 t8 => b_ixf1_0 F F 0 (st_ixf1_0 t0 t1_0_0 t1_0_1 t1_0_2 t1_0_3 t4 t7 t8) (k_ixf1_0 F Post)) = (n_ixf1_0 F (fun r0 => Post (.int .i64 r0))) := by
  funext t0 t1_0_0 t1_0_1 t1_0_2 t1_0_3 t4 t7 t8
  exact nl_ixf1_0 F Post t0 t1_0_0 t1_0_1 t1_0_2 t1_0_3 t4 t7 t8
 rw [e0]
 rfl
def m_ixf1 : Model UU
 | [.sl .rect l, .fn 84 [.ref [.int .i64 c_0, .int .i64 c_1, .int .i64 c_2, .int .i64 c_3] 0]] => some ([pre_ixf1 l c_0 c_1 c_2 c_3], .int .i64 (sp_ixf1 l c_0 c_1 c_2 c_3))
 | _ => none
def C_ixf1 : Cfg UU := C_do1.add 44 m_ixf1
theorem s_ixf1 : SumOK C_ixf1 := by
 refine s_do1.addD mixed (fn := Tryz.f44) (c := bo Tryz.f44) Tryz.func44 (by kernel_rfl) (by kernel_rfl) ?_
 intro xs cs r h hc
 unfold m_ixf1 at h
 split at h
 ·rename_i l c_0 c_1 c_2 c_3
  cases h
  obtain ⟨F, hF⟩ := ok_ixf1 l c_0 c_1 c_2 c_3 hc
  refine ⟨by kernel_rfl, M_ixf1, F, false, ⟨?_⟩⟩
  rw [exec_ixf1]
  refine hF _ ?_
  rfl
 ·cases h
set_option maxRecDepth 100000
theorem entry_cof1 (F : Nat) (Post : AVal UU → Prop) (l : List Rect) (c_0 c_1 c_2 c_3 : Int) : exec C_ixf1 Tryz.f83.ntmps M_cof1 F 0 (bo Tryz.f83) (initSt [.sl .rect l, .fn 84 [.ref [.int .i64 c_0, .int .i64 c_1, .int .i64 c_2, .int .i64 c_3] 0]]) (AEnds C_ixf1 false Tryz.f83 Post) = g_cof1_e l c_0 c_1 c_2 c_3 (fun r0 => Post (.bool r0)) := by kernel_rfl
theorem exec_cof1 (F : Nat) (Post : AVal UU → Prop) (l : List Rect) (c_0 c_1 c_2 c_3 : Int) : exec C_ixf1 Tryz.f83.ntmps M_cof1 F 0 (bo Tryz.f83) (initSt [.sl .rect l, .fn 84 [.ref [.int .i64 c_0, .int .i64 c_1, .int .i64 c_2, .int .i64 c_3] 0]]) (AEnds C_ixf1 false Tryz.f83 Post) = w_cof1 F l c_0 c_1 c_2 c_3 (fun r0 => Post (.bool r0)) := by
 rw [entry_cof1]
 rfl
def m_cof1 : Model UU
 | [.sl .rect l, .fn 84 [.ref [.int .i64 c_0, .int .i64 c_1, .int .i64 c_2, .int .i64 c_3] 0]] => some ([pre_cof1 l c_0 c_1 c_2 c_3], .bool (sp_cof1 l c_0 c_1 c_2 c_3))
 | _ => none
def C_cof1 : Cfg UU := C_ixf1.add 83 m_cof1
theorem s_cof1 : SumOK C_cof1 := by
 refine s_ixf1.addD mixed (fn := Tryz.f83) (c := bo Tryz.f83) Tryz.func83 (by kernel_rfl) (by kernel_rfl) ?_
 intro xs cs r h hc
 unfold m_cof1 at h
 split at h
 ·rename_i l c_0 c_1 c_2 c_3
  cases h
  obtain ⟨F, hF⟩ := ok_cof1 l c_0 c_1 c_2 c_3 hc
  refine ⟨by kernel_rfl, M_cof1, F, false, ⟨?_⟩⟩
  rw [exec_cof1]
  refine hF _ ?_
  rfl
 ·cases h
end
end Go.Proofs.YteffpgliiilnjaaGreatDoor
namespace Go.Proofs.YteffpgliiilnjaaGreatDoor
open Go.Vm Go.RowKit Go.Lib
set_option linter.unusedVariables false
noncomputable section
theorem fresh_new {w0 w : World} {N : Nat → Prop} {τ : Knd} {xs : List (UU.T τ)} {v : Value} {cs : List Value} (hb : Below w0.heap.size w0 w)
  (ho : w.ownsRow w0.heap.size (UU.ety τ) (UU.size τ) v xs.length cs) (hp : ∀ a, v ≠ .pointer a)
  (hr : ∀ i (h : i < xs.length) k (hk : k < (EE.enc τ xs[i]).length), Rel EE w0 noOwn (Out' N w0) (EE.enc τ xs[i])[k] (cs.getD (i * UU.size τ + k) undef)) : Fresh EE w0.heap.size N w (.new τ xs) v := by
 have hblk : ∀ b, blk v = some b → w0.heap.size ≤ b ∧ b < w.heap.size := (ownsRow_oneCell ho hp).2
 refine ⟨fun k => if k = .ob 0 then some (0, v) else none, .osl 0 0 _ (by simp) hp, fun k x hk => ?_, fun k g u hk => ?_, fun i j g g' u u' b hi hj hne => ?_⟩
 ·cases k with
  | zero =>
   have : (⟨false, τ, xs⟩ : NewRow UU) = x := by simpa [AVal.news, news2, news1] using hk
   subst this
   refine ⟨_, _, by simp, hp, ho, fun i hi k hk' => ?_⟩
   refine ((hr i hi k hk').flat (ρ' := fun k => if k = .ob 0 then some (0, v) else none) (EE.enc_flat _ _ _ (List.getElem_mem hk')).1).mono (fun b hb' => ⟨⟨?_, hb'.2, fun nm g u hnm => ?_⟩, hb.block b hb'.1⟩) (fun nm g u h => .inl h)
   ·have := hb.size
    have := hb'.1
    omega
   ·by_cases hnm0 : nm = .ob 0
    ·subst hnm0
     simp only [if_true, Option.some.injEq, Prod.mk.injEq] at hnm
     obtain ⟨_, rfl⟩ := hnm
     intro e
     have := (hblk b e).1
     have := hb'.1
     omega
    ·simp [hnm0] at hnm
  | succ k => simp [AVal.news, news2, news1] at hk
 ·by_cases hk0 : k = .ob 0
  ·subst hk0
   exact ⟨⟨false, τ, xs⟩, by simp [AVal.news, news2, news1, Name.id], fun _ => ⟨0, rfl⟩⟩
  ·simp [hk0] at hk
 ·by_cases hi0 : i = .ob 0
  ·by_cases hj0 : j = .ob 0
   ·exact absurd (hi0.trans hj0.symm) hne
   ·simp [hj0] at hj
  ·simp [hi0] at hi
theorem map_range_getD (f : Nat → Value) (n i : Nat) (h : i < n) : ((List.range n).map f).getD i undef = f i := by simp [List.getD_eq_getElem?_getD, h]
set_option maxHeartbeats 2000000 in
set_option maxRecDepth 100000 in
theorem clone87_some (b off n c : Nat) (f : Nat → Value) (w : World) (hbig : n * 32 ≤ 140737488355328) (hc : ∀ j, j < n * 4 → w.cell? ⟨b, off + j, none⟩ = some (f j)) (h1 : ∀ j, j < n * 4 → (f j).oneCell' = true) :
  Calls Tryz.prog 87 #[.slice (some ⟨b, off, none⟩) n c] w fun e w' => ∃ v', e = .returned v' ∧ w'.ownsRow w.heap.size 43 4 v' n ((List.range (n * 4)).map f) ∧ (∀ a, v' ≠ .pointer a) ∧ Below w.heap.size w w' := by
 have q26 : ∀ (w : World) (a : Option Addr) (n c n' c' : Nat), (binOp .eql 26 (.slice a n c) (.slice none n' c')).run Tryz.prog w = .ok (.bool a.isNone) w := fun w a n c n' c' => Lib.run_eql_slice_nil w _ _ a n c n' c' Tryz.underlying26
 obtain ⟨i0, hi, hz0, hz1, hz2⟩ := info_parts (P := Tryz.prog) (e := 43) (z := .agg #[.int .i64 0, .int .i64 0, .int .i64 0, .int .i64 0]) (size := 4) (bytes := 32) (by kernel_rfl)
 have A : Aside ((∀ j, j < n * 4 → w.cell? ⟨b, off + j, none⟩ = some (f j)) ∧ ∀ j, j < n * 4 → (f j).oneCell' = true) := ⟨hc, h1⟩
 clear hc h1
 go_enter Tryz.func87, Tryz.ntmps87
 go_wp2_with (at_builtin; refine wpList_append_own _ rfl _ _ 26 rfl w.heap.size 43 i0 (.agg #[.int .i64 0, .int .i64 0, .int .i64 0, .int .i64 0]) 4 32 Tryz.underlying26 hi hz0 hz1 hz2 rfl (by decide) _ _ _ rfl (World.ownsRow_made w #[] 0 (Nat.le_refl _) (Nat.zero_le _) rfl) ⟨b, off, none⟩ n c ((List.range (n * 4)).map f) rfl ?qc1 ?qc2 ?qc3 ?qc4 ?qc5 ?qc6 ?_)
 case qc1 => simp
 case qc2 =>
  intro j u hj
  have hjn : j < n * 4 := by
   have := (List.getElem?_eq_some_iff.1 hj).1
   simpa using this
  rw [Addr.add_lit]
  refine Lib.cell?_alloc_some _ ?_
  rw [A.out.1 j hjn]
  simpa [hjn] using hj
 case qc3 =>
  intro u hu
  obtain ⟨x, hx, rfl⟩ := List.mem_map.1 hu
  exact A.out.2 x (List.mem_range.1 hx)
 case qc4 => unfold maxLen; omega
 case qc5 => omega
 case qc6 => simp
 intro v' w1 hown hgrow hnil
 go_wp2
 go_ret
 refine ⟨v', rfl, by simpa using hown, ?_, ?_⟩
 ·intro a e
  subst e
  rcases hown.2 with ⟨h, _⟩ | ⟨_, _, _, h, _⟩ <;> cases h
 ·exact ((Below.refl _ w).alloc (Nat.le_refl _) _).grown hgrow (by simp) (by intro k hk; simp [Value.ownBlock] at hk; omega)
set_option maxHeartbeats 1000000 in
theorem clone87_nil (w : World) :
  Calls Tryz.prog 87 #[.slice none 0 0] w fun e w' => e = .returned (.slice none 0 0) ∧ w' = w := by
 have q26 : ∀ (w : World) (a : Option Addr) (n c n' c' : Nat), (binOp .eql 26 (.slice a n c) (.slice none n' c')).run Tryz.prog w = .ok (.bool a.isNone) w := fun w a n c n' c' => Lib.run_eql_slice_nil w _ _ a n c n' c' Tryz.underlying26
 go_enter Tryz.func87, Tryz.ntmps87
 go_wp2
 go_ret
 exact ⟨rfl, rfl⟩
def mClone87 : Model UU
 | [.sl .seg xs] => some ([xs.length ≤ 100000], .new .seg xs)
 | _ => none
theorem sClone87 {C : Cfg UU} (hE : C.E = EE) (hs : SumOK C) (hP : C.P = Tryz.prog) : SumOK (C.add 87 mClone87) := by
 refine hs.put ⟨fun args w => by rw [hP]; exact callFunc_run (fn := Tryz.f87) Tryz.func87 (by kernel_rfl) rfl args w, ?_⟩
 intro N w args xs cs r hinv hN hargs hm hc
 unfold mClone87 at hm
 split at hm
 ·rename_i l
  cases hm
  have hc' : l.length ≤ 100000 := hc
  obtain ⟨a, rfl, ha⟩ := args1 hargs
  rw [hP]
  rw [hE] at ha ⊢
  cases ha with
  | sl0 =>
   refine (clone87_nil w).mono ?_
   rintro e w' ⟨rfl, rfl⟩
   refine ⟨_, rfl, fresh_new (cs := []) (Below.refl _ _) (World.ownsRow_nil _ _ _ _) (by intro a e; cases e) (fun i h => absurd h (by simp)), Below.refl _ _⟩
  | sl _ _ b o cap f hb hcap hc hl =>
   have hidx : ∀ j, j < l.length * 4 → ∃ i k, ∃ (hi : i < l.length) (hk : k < (EE.enc .seg l[i]).length), j = i * UU.size .seg + k := fun j hj => by
    have hi : j / 4 < l.length := by omega
    refine ⟨j / 4, j % 4, hi, by rw [EE.enc_len]; exact Nat.mod_lt _ (by decide), ?_⟩
    show j = j / 4 * 4 + j % 4
    omega
   refine (clone87_some b o l.length cap f w (by omega) hc (fun j hj => ?_)).mono ?_
   ·obtain ⟨i, k, hi, hk, rfl⟩ := hidx j hj
    have hfl := EE.enc_flat _ _ _ (List.getElem_mem hk)
    exact (hl i hi k hk).oneCell hfl.2 (fun nm g u h => by cases h) (fun id g h => by rw [h] at hfl; cases hfl.1) (fun id g i off sz h => by rw [h] at hfl; cases hfl.1) (fun id i g h => by rw [h] at hfl; cases hfl.1) (fun id i g j off sz h => by rw [h] at hfl; cases hfl.1)
   ·rintro e w' ⟨v', rfl, h1, h2, h3⟩
    refine ⟨_, rfl, fresh_new h3 h1 h2 (fun i hi k hk => ?_), h3⟩
    have hk' : k < 4 := by
     have := hk
     rw [EE.enc_len] at this
     exact this
    rw [show i * UU.size .seg + k = i * 4 + k from rfl, map_range_getD _ _ _ (by
     have : i * 4 + 4 ≤ l.length * 4 := by
      have := Nat.mul_le_mul_right 4 (show i + 1 ≤ l.length from hi)
      omega
     omega)]
    exact hl i hi k hk
 ·cases hm
set_option maxHeartbeats 2000000 in
set_option maxRecDepth 100000 in
theorem clone33_some (b off n c : Nat) (f : Nat → Value) (w : World) (hbig : n * 32 ≤ 140737488355328) (hc : ∀ j, j < n * 4 → w.cell? ⟨b, off + j, none⟩ = some (f j)) (h1 : ∀ j, j < n * 4 → (f j).oneCell' = true) :
  Calls Tryz.prog 33 #[.slice (some ⟨b, off, none⟩) n c] w fun e w' => ∃ v', e = .returned v' ∧ w'.ownsRow w.heap.size 65 4 v' n ((List.range (n * 4)).map f) ∧ (∀ a, v' ≠ .pointer a) ∧ Below w.heap.size w w' := by
 have q26 : ∀ (w : World) (a : Option Addr) (n c n' c' : Nat), (binOp .eql 22 (.slice a n c) (.slice none n' c')).run Tryz.prog w = .ok (.bool a.isNone) w := fun w a n c n' c' => Lib.run_eql_slice_nil w _ _ a n c n' c' Tryz.underlying22
 obtain ⟨i0, hi, hz0, hz1, hz2⟩ := info_parts (P := Tryz.prog) (e := 65) (z := .agg #[.int .i64 0, .int .i64 0, .int .i64 0, .int .i64 0]) (size := 4) (bytes := 32) (by kernel_rfl)
 have A : Aside ((∀ j, j < n * 4 → w.cell? ⟨b, off + j, none⟩ = some (f j)) ∧ ∀ j, j < n * 4 → (f j).oneCell' = true) := ⟨hc, h1⟩
 clear hc h1
 go_enter Tryz.func33, Tryz.ntmps33
 go_wp2_with (at_builtin; refine wpList_append_own _ rfl _ _ 22 rfl w.heap.size 65 i0 (.agg #[.int .i64 0, .int .i64 0, .int .i64 0, .int .i64 0]) 4 32 Tryz.underlying22 hi hz0 hz1 hz2 rfl (by decide) _ _ _ rfl (World.ownsRow_made w #[] 0 (Nat.le_refl _) (Nat.zero_le _) rfl) ⟨b, off, none⟩ n c ((List.range (n * 4)).map f) rfl ?qc1 ?qc2 ?qc3 ?qc4 ?qc5 ?qc6 ?_)
 case qc1 => simp
 case qc2 =>
  intro j u hj
  have hjn : j < n * 4 := by
   have := (List.getElem?_eq_some_iff.1 hj).1
   simpa using this
  rw [Addr.add_lit]
  refine Lib.cell?_alloc_some _ ?_
  rw [A.out.1 j hjn]
  simpa [hjn] using hj
 case qc3 =>
  intro u hu
  obtain ⟨x, hx, rfl⟩ := List.mem_map.1 hu
  exact A.out.2 x (List.mem_range.1 hx)
 case qc4 => unfold maxLen; omega
 case qc5 => omega
 case qc6 => simp
 intro v' w1 hown hgrow hnil
 go_wp2
 go_ret
 refine ⟨v', rfl, by simpa using hown, ?_, ?_⟩
 ·intro a e
  subst e
  rcases hown.2 with ⟨h, _⟩ | ⟨_, _, _, h, _⟩ <;> cases h
 ·exact ((Below.refl _ w).alloc (Nat.le_refl _) _).grown hgrow (by simp) (by intro k hk; simp [Value.ownBlock] at hk; omega)
set_option maxHeartbeats 1000000 in
theorem clone33_nil (w : World) :
  Calls Tryz.prog 33 #[.slice none 0 0] w fun e w' => e = .returned (.slice none 0 0) ∧ w' = w := by
 have q26 : ∀ (w : World) (a : Option Addr) (n c n' c' : Nat), (binOp .eql 22 (.slice a n c) (.slice none n' c')).run Tryz.prog w = .ok (.bool a.isNone) w := fun w a n c n' c' => Lib.run_eql_slice_nil w _ _ a n c n' c' Tryz.underlying22
 go_enter Tryz.func33, Tryz.ntmps33
 go_wp2
 go_ret
 exact ⟨rfl, rfl⟩
def mClone33 : Model UU
 | [.sl .rect xs] => some ([xs.length ≤ 100000], .new .rect xs)
 | _ => none
theorem sClone33 {C : Cfg UU} (hE : C.E = EE) (hs : SumOK C) (hP : C.P = Tryz.prog) : SumOK (C.add 33 mClone33) := by
 refine hs.put ⟨fun args w => by rw [hP]; exact callFunc_run (fn := Tryz.f33) Tryz.func33 (by kernel_rfl) rfl args w, ?_⟩
 intro N w args xs cs r hinv hN hargs hm hc
 unfold mClone33 at hm
 split at hm
 ·rename_i l
  cases hm
  have hc' : l.length ≤ 100000 := hc
  obtain ⟨a, rfl, ha⟩ := args1 hargs
  rw [hP]
  rw [hE] at ha ⊢
  cases ha with
  | sl0 =>
   refine (clone33_nil w).mono ?_
   rintro e w' ⟨rfl, rfl⟩
   refine ⟨_, rfl, fresh_new (cs := []) (Below.refl _ _) (World.ownsRow_nil _ _ _ _) (by intro a e; cases e) (fun i h => absurd h (by simp)), Below.refl _ _⟩
  | sl _ _ b o cap f hb hcap hc hl =>
   have hidx : ∀ j, j < l.length * 4 → ∃ i k, ∃ (hi : i < l.length) (hk : k < (EE.enc .rect l[i]).length), j = i * UU.size .rect + k := fun j hj => by
    have hi : j / 4 < l.length := by omega
    refine ⟨j / 4, j % 4, hi, by rw [EE.enc_len]; exact Nat.mod_lt _ (by decide), ?_⟩
    show j = j / 4 * 4 + j % 4
    omega
   refine (clone33_some b o l.length cap f w (by omega) hc (fun j hj => ?_)).mono ?_
   ·obtain ⟨i, k, hi, hk, rfl⟩ := hidx j hj
    have hfl := EE.enc_flat _ _ _ (List.getElem_mem hk)
    exact (hl i hi k hk).oneCell hfl.2 (fun nm g u h => by cases h) (fun id g h => by rw [h] at hfl; cases hfl.1) (fun id g i off sz h => by rw [h] at hfl; cases hfl.1) (fun id i g h => by rw [h] at hfl; cases hfl.1) (fun id i g j off sz h => by rw [h] at hfl; cases hfl.1)
   ·rintro e w' ⟨v', rfl, h1, h2, h3⟩
    refine ⟨_, rfl, fresh_new h3 h1 h2 (fun i hi k hk => ?_), h3⟩
    have hk' : k < 4 := by
     have := hk
     rw [EE.enc_len] at this
     exact this
    rw [show i * UU.size .rect + k = i * 4 + k from rfl, map_range_getD _ _ _ (by
     have : i * 4 + 4 ≤ l.length * 4 := by
      have := Nat.mul_le_mul_right 4 (show i + 1 ≤ l.length from hi)
      omega
     omega)]
    exact hl i hi k hk
 ·cases hm
end
end Go.Proofs.YteffpgliiilnjaaGreatDoor
namespace Go.Proofs
open Go.RowKit Go.Extern
theorem Tryz.valueOf165 (t : Addr) (w : World) : (ReflectliteValue.unpack (.iface 165 (.pointer (some t)))).run Tryz.prog w
  = .ok (.agg #[.pointer (some ⟨9, 165, none⟩), .pointer (some ⟨w.heap.size, 0, none⟩), .int .u64 150]) (w.alloc (.cells #[.pointer (some t)] 165)) := by kernel_rfl
theorem Tryz.rtype165 (a : Addr) (w : World) : (ReflectliteValue.methodAny (ReflectliteValue.valueError "reflectlite.Value.Type" 0) (fun t _ _ _ => ReflectliteType.toType t) #[.agg #[.pointer (some ⟨9, 165, none⟩), .pointer (some a), .int .u64 150]]).run Tryz.prog w
  = .ok (.iface 244 (.agg #[.pointer (some ⟨9, 165, none⟩)])) w := by kernel_rfl
theorem Tryz.methodKind (h : Value) (w : World) : (Go.method 453 244 (.agg #[h]) "Kind").run Tryz.prog w = .ok (263, h) w := by kernel_rfl
theorem Tryz.kind165 (w : World) : ((ReflectliteType.abiMethod fun t => (fun a : Nat => Value.int IntKind.u8 (a : Int)) <$> Rtype.kind t) #[.pointer (some ⟨9, 165, none⟩)]).run Tryz.prog w = .ok (.int .u8 22) w := by kernel_rfl
theorem Tryz.kind161 (w : World) : ((ReflectliteType.abiMethod fun t => (fun a : Nat => Value.int IntKind.u8 (a : Int)) <$> Rtype.kind t) #[.pointer (some ⟨9, 161, none⟩)]).run Tryz.prog w = .ok (.int .u8 25) w := by kernel_rfl
theorem rlm (z : Sem Value) (f : TypeId → Addr → Nat → Nat → Sem Value) (v : Value) :
  ReflectliteValue.method z f #[v] = (do match ← ReflectliteValue.parts v with | none => z | some (t, a, fl) => f t a fl (fl % 32)) := rfl
theorem Tryz.parts165 (a : Addr) (w : World) : (ReflectliteValue.parts (.agg #[.pointer (some ⟨9, 165, none⟩), .pointer (some a), .int .u64 150])).run Tryz.prog w = .ok (some (165, a, 150)) w := by kernel_rfl
theorem Tryz.isNil165 (a p : Addr) (W : World) (ha : W.cell? a = some (.pointer (some p))) :
  (ReflectliteValue.method (ReflectliteValue.valueError "reflectlite.Value.IsNil" 0) ReflectliteValue.isNil #[.agg #[.pointer (some ⟨9, 165, none⟩), .pointer (some a), .int .u64 150]]).run Tryz.prog W = .ok (.bool false) W := by
 rw [rlm]
 simp only [Sem.run_bind, Tryz.parts165, Result.andThen]
 simp [ReflectliteValue.isNil, loadVar, isAgg, underlying, Tryz.underlying165, ha, Result.andThen]
theorem Tryz.methodElem (h : Value) (w : World) : (Go.method 453 244 (.agg #[h]) "Elem").run Tryz.prog w = .ok (274, .agg #[h]) w := by kernel_rfl
theorem Tryz.methodImplements (h : Value) (w : World) : (Go.method 453 244 (.agg #[h]) "Implements").run Tryz.prog w = .ok (275, .agg #[h]) w := by kernel_rfl
theorem Tryz.methodAssignableTo (h : Value) (w : World) : (Go.method 453 244 (.agg #[h]) "AssignableTo").run Tryz.prog w = .ok (272, .agg #[h]) w := by kernel_rfl
theorem Tryz.elem165 (w : World) : (ReflectliteType.method ReflectliteType.elem #[.agg #[.pointer (some ⟨9, 165, none⟩)]]).run Tryz.prog w = .ok (.iface 244 (.agg #[.pointer (some ⟨9, 161, none⟩)])) w := by kernel_rfl
theorem Tryz.implements161 (w : World) : (ReflectliteType.relation "Implements" ReflectliteType.implements_ #[.agg #[.pointer (some ⟨9, 161, none⟩)], .iface 244 (.agg #[.pointer (some ⟨9, 73, none⟩)])]).run Tryz.prog w = .ok (.bool true) w := by kernel_rfl
theorem Tryz.typeOf161 (v : Value) (w : World) : (ReflectliteType.typeOf #[.iface 161 v]).run Tryz.prog w = .ok (.iface 244 (.agg #[.pointer (some ⟨9, 161, none⟩)])) w := by kernel_rfl
theorem Tryz.assignable161 (w : World) : (ReflectliteType.relation "AssignableTo" ReflectliteType.assignableTo #[.agg #[.pointer (some ⟨9, 161, none⟩)], .iface 244 (.agg #[.pointer (some ⟨9, 161, none⟩)])]).run Tryz.prog w = .ok (.bool true) w := by kernel_rfl
theorem Tryz.valueOf161 (n : Int) (w : World) : (ReflectliteValue.unpack (.iface 161 (.agg #[.int .i64 n]))).run Tryz.prog w
  = .ok (.agg #[.pointer (some ⟨9, 161, none⟩), .pointer (some ⟨w.heap.size, 0, none⟩), .int .u64 153]) (w.alloc (.cells #[.int .i64 n] 161)) := by kernel_rfl
theorem Tryz.elemOf165 (w : World) : (Rtype.elem? 165).run Tryz.prog w = .ok (some 161) w := by kernel_rfl
theorem Tryz.mk161 (p : Addr) (w : World) : (ReflectliteValue.mk 161 p ReflectliteValue.flagAddr).run Tryz.prog w = .ok (.agg #[.pointer (some ⟨9, 161, none⟩), .pointer (some p), .int .u64 409]) w := by kernel_rfl
theorem Tryz.elemV165 (a p : Addr) (W : World) (ha : W.cell? a = some (.pointer (some p))) :
  (ReflectliteValue.method (ReflectliteValue.valueError "reflectlite.Value.Elem" 0) ReflectliteValue.elem #[.agg #[.pointer (some ⟨9, 165, none⟩), .pointer (some a), .int .u64 150]]).run Tryz.prog W
   = .ok (.agg #[.pointer (some ⟨9, 161, none⟩), .pointer (some p), .int .u64 409]) W := by
 rw [rlm]
 simp only [Sem.run_bind, Tryz.parts165, Result.andThen]
 simp [ReflectliteValue.elem, loadVar, isAgg, underlying, Tryz.underlying165, ha, Result.andThen, Tryz.elemOf165, Tryz.mk161]
theorem rls (v x : Value) : ReflectliteValue.set #[v, x] = (do
  let (some (dst, a, fl), some (src, b, _)) := (← ReflectliteValue.parts v, ← ReflectliteValue.parts x)
   | unsupported (.noEntry "extern/(internal/reflectlite.Value).Set.zeroValue")
  if fl / ReflectliteValue.flagAddr % 2 == 0 then unsupported (.noEntry "extern/(internal/reflectlite.Value).Set.unaddressable")
  let val ← loadVar src b
  if ← Rtype.directlyAssignable dst src then storeVar dst a val
  else if ← Rtype.implements dst src then
   if (← Rtype.kind src) == 20 then
    match val with
    | .nilIface => unsupported (.noEntry "extern/reflectlite: a nil value of one interface type handed on as a value of another")
    | _ => storeVar dst a val
   else storeVar dst a (.iface src val)
  else panicString ("reflectlite.Set: value of type " ++ (← Rtype.spelt src) ++ " is not assignable to type " ++ (← Rtype.spelt dst))
  pure (.tuple #[])) := rfl
theorem Tryz.parts161a (a : Addr) (w : World) : (ReflectliteValue.parts (.agg #[.pointer (some ⟨9, 161, none⟩), .pointer (some a), .int .u64 409])).run Tryz.prog w = .ok (some (161, a, 409)) w := by kernel_rfl
theorem Tryz.parts161 (a : Addr) (w : World) : (ReflectliteValue.parts (.agg #[.pointer (some ⟨9, 161, none⟩), .pointer (some a), .int .u64 153])).run Tryz.prog w = .ok (some (161, a, 153)) w := by kernel_rfl
theorem Tryz.direct161 (w : World) : (Rtype.directlyAssignable 161 161).run Tryz.prog w = .ok true w := by kernel_rfl
theorem Tryz.set161 (ta b : Addr) (n : Int) (old : Value) (W : World) (hb : W.cell? b = some (.int .i64 n)) (ht : W.cell? ta = some old) (hf : W.frozen? ta = false) :
  (ReflectliteValue.set #[.agg #[.pointer (some ⟨9, 161, none⟩), .pointer (some ta), .int .u64 409], .agg #[.pointer (some ⟨9, 161, none⟩), .pointer (some b), .int .u64 153]]).run Tryz.prog W
   = .ok (.tuple #[]) (W.setCell ta (.int .i64 n)) := by
 have hl : (loadVar 161 b).run Tryz.prog W = .ok (.agg #[.int .i64 n]) W := by
  simp [loadVar, isAgg, underlying, Tryz.underlying161, Result.andThen, loadCells, loadCellsFrom, hb, Addr.add]
 rw [rls]
 simp only [Sem.run_bind, Tryz.parts161a, Tryz.parts161, Result.andThen]
 simp only [ReflectliteValue.flagAddr]
 simp [hl, Result.andThen, Tryz.direct161, storeVar, Value.cells, storeCells, Addr.add]
 rw [run_store Tryz.prog W ta _ _ (by rfl)]
 simp [ht, hf]
end Go.Proofs
namespace Go.Proofs
open Go.RowKit Go.Extern
set_option linter.unusedVariables false
set_option maxHeartbeats 4000000 in
set_option maxRecDepth 100000 in
theorem Tryz.as_hit (n : Int) (t b : Addr) (old : Value) (w : World) (hb : w.cell? b = some (.pointer (some t))) (ht0 : w.cell? t = some old) (hf0 : w.frozen? t = false) :
  Calls Tryz.prog 137 #[.iface 161 (.agg #[.int .i64 n]), .iface 165 (.pointer (some t)), .agg #[.pointer (some ⟨9, 165, none⟩), .pointer (some b), .int .u64 150], .iface 244 (.agg #[.pointer (some ⟨9, 161, none⟩)])] w fun ev w' => ev = .returned (.bool true) ∧ w' = ((w.alloc (.cells #[.pointer (some ⟨9, 165, none⟩), .pointer (some b), .int .u64 150] 208)).alloc (.cells #[.int .i64 n] 161)).setCell t (.int .i64 n) := by
 have h10 := @run_callFunc_extern Tryz.prog 171 _ ReflectliteType.typeOf Tryz.func171 (by kernel_rfl) (by kernel_rfl) (by kernel_rfl) (by kernel_rfl)
 have h35 := @run_callFunc_extern Tryz.prog 272 _ (ReflectliteType.relation "AssignableTo" ReflectliteType.assignableTo) Tryz.func272 (by kernel_rfl) (by kernel_rfl) (by kernel_rfl) (by kernel_rfl)
 have h11 := @run_callFunc_extern Tryz.prog 172 _ (ReflectliteValue.method (ReflectliteValue.valueError "reflectlite.Value.Elem" 0) ReflectliteValue.elem) Tryz.func172 (by kernel_rfl) (by kernel_rfl) (by kernel_rfl) (by kernel_rfl)
 have h6 := @run_callFunc_extern Tryz.prog 134 _ (fun args => ReflectliteValue.unpack (args.getD 0 (.tuple #[]))) Tryz.func134 (by kernel_rfl) (by kernel_rfl) (by kernel_rfl) (by kernel_rfl)
 have h12 := @run_callFunc_extern Tryz.prog 173 _ ReflectliteValue.set Tryz.func173 (by kernel_rfl) (by kernel_rfl) (by kernel_rfl) (by kernel_rfl)
 have tO := Tryz.typeOf161
 have mA := Tryz.methodAssignableTo
 have a25 := Tryz.assignable161
 have v25 := Tryz.valueOf161
 have htl : t.block < w.heap.size := by
  rcases Nat.lt_or_ge t.block w.heap.size with h | h
  ·exact h
  ·simp [World.cell?, Array.getElem?_eq_none h] at ht0
 have hbl : b.block < w.heap.size := by
  rcases Nat.lt_or_ge b.block w.heap.size with h | h
  ·exact h
  ·simp [World.cell?, Array.getElem?_eq_none h] at hb
 have el := Tryz.elemV165 b t (w.alloc (.cells #[.pointer (some ⟨9, 165, none⟩), .pointer (some b), .int .u64 150] 208)) (by rw [World.cell?_alloc_lt _ _ b hbl]; exact hb)
 have st := Tryz.set161 t ⟨w.heap.size + 1, 0, none⟩ n old ((w.alloc (.cells #[.pointer (some ⟨9, 165, none⟩), .pointer (some b), .int .u64 150] 208)).alloc (.cells #[.int .i64 n] 161))
  (by rw [World.cell?_alloc_at _ _ _ _ (by simp)]; rfl)
  (by rw [World.cell?_alloc_lt _ _ t (by simp; omega), World.cell?_alloc_lt _ _ t htl]; exact ht0)
  (by rw [World.frozen?_alloc_old _ _ t (by simp; omega), World.frozen?_alloc_old _ _ t (Nat.ne_of_lt htl)]; exact hf0)
 go_enter Tryz.func137, Tryz.ntmps137
 go_wp2
 refine wp_loop_rounds 1 ?_
 rw [rounds_succ]
 go_wp2
 go_ret
 exact ⟨rfl, rfl⟩
set_option maxHeartbeats 4000000 in
set_option maxRecDepth 100000 in
theorem Tryz.errors_As (n : Int) (t : Addr) (old : Value) (w : World) (hg : w.cell? ⟨0, 0, none⟩ = some (.iface 244 (.agg #[.pointer (some ⟨9, 73, none⟩)]))) (ht0 : w.cell? t = some old) (hf0 : w.frozen? t = false) :
  Calls Tryz.prog 86 #[.iface 161 (.agg #[.int .i64 n]), .iface 165 (.pointer (some t))] w fun ev w' => ev = .returned (.bool true) ∧ w' = ((((w.alloc (.cells #[.pointer (some t)] 165)).alloc (.cells #[.pointer (some ⟨9, 165, none⟩), .pointer (some ⟨w.heap.size, 0, none⟩), .int .u64 150] 208)).alloc (.cells #[.pointer (some ⟨9, 165, none⟩), .pointer (some ⟨w.heap.size, 0, none⟩), .int .u64 150] 208)).alloc (.cells #[.int .i64 n] 161)).setCell t (.int .i64 n) := by
 have h6 := @run_callFunc_extern Tryz.prog 134 _ (fun args => ReflectliteValue.unpack (args.getD 0 (.tuple #[]))) Tryz.func134 (by kernel_rfl) (by kernel_rfl) (by kernel_rfl) (by kernel_rfl)
 have h7 := @run_callFunc_extern Tryz.prog 135 _ (ReflectliteValue.methodAny (ReflectliteValue.valueError "reflectlite.Value.Type" 0) (fun t _ _ _ => ReflectliteType.toType t)) Tryz.func135 (by kernel_rfl) (by kernel_rfl) (by kernel_rfl) (by kernel_rfl)
 have h8 := @run_callFunc_extern Tryz.prog 136 _ (ReflectliteValue.method (ReflectliteValue.valueError "reflectlite.Value.IsNil" 0) ReflectliteValue.isNil) Tryz.func136 (by kernel_rfl) (by kernel_rfl) (by kernel_rfl) (by kernel_rfl)
 have h27 := @run_callFunc_extern Tryz.prog 263 _ (ReflectliteType.abiMethod fun t => do pure (.int .u8 (← Rtype.kind t))) Tryz.func263 (by kernel_rfl) (by kernel_rfl) (by kernel_rfl) (by kernel_rfl)
 have h37 := @run_callFunc_extern Tryz.prog 274 _ (ReflectliteType.method ReflectliteType.elem) Tryz.func274 (by kernel_rfl) (by kernel_rfl) (by kernel_rfl) (by kernel_rfl)
 have h38 := @run_callFunc_extern Tryz.prog 275 _ (ReflectliteType.relation "Implements" ReflectliteType.implements_) Tryz.func275 (by kernel_rfl) (by kernel_rfl) (by kernel_rfl) (by kernel_rfl)
 have f6 := Tryz.valueOf165
 have f7 := Tryz.rtype165
 have mK := Tryz.methodKind
 have mE := Tryz.methodElem
 have mI := Tryz.methodImplements
 have k27 := Tryz.kind165
 have k25 := Tryz.kind161
 have e27 := Tryz.elem165
 have i25 := Tryz.implements161
 have hlt : 0 < w.heap.size := by
  rcases Nat.eq_zero_or_pos w.heap.size with h0 | h
  ·simp [World.cell?, h0] at hg
  ·exact h
 have htl : t.block < w.heap.size := by
  rcases Nat.lt_or_ge t.block w.heap.size with h | h
  ·exact h
  ·simp [World.cell?, Array.getElem?_eq_none h] at ht0
 have n8 := Tryz.isNil165 ⟨w.heap.size, 0, none⟩ t ((w.alloc (.cells #[.pointer (some t)] 165)).alloc (.cells #[.pointer (some ⟨9, 165, none⟩), .pointer (some ⟨w.heap.size, 0, none⟩), .int .u64 150] 208)) (by simp)
 have hg2 : ((w.alloc (.cells #[.pointer (some t)] 165)).alloc (.cells #[.pointer (some ⟨9, 165, none⟩), .pointer (some ⟨w.heap.size, 0, none⟩), .int .u64 150] 208)).cell? ⟨0, 0, none⟩ = some (.iface 244 (.agg #[.pointer (some ⟨9, 73, none⟩)])) := by
  rw [World.cell?_alloc_lt _ _ ⟨0, 0, none⟩ (by simp), World.cell?_alloc_lt _ _ ⟨0, 0, none⟩ hlt]; exact hg
 have hA := Tryz.as_hit n t ⟨w.heap.size, 0, none⟩ old ((w.alloc (.cells #[.pointer (some t)] 165)).alloc (.cells #[.pointer (some ⟨9, 165, none⟩), .pointer (some ⟨w.heap.size, 0, none⟩), .int .u64 150] 208)) (by simp)
  (by rw [World.cell?_alloc_lt _ _ t (by simp; omega), World.cell?_alloc_lt _ _ t htl]; exact ht0)
  (by rw [World.frozen?_alloc_old _ _ t (by simp; omega), World.frozen?_alloc_old _ _ t (Nat.ne_of_lt htl)]; exact hf0)
 clear hg
 go_enter Tryz.func86, Tryz.ntmps86
 go_wp2_with (go_at_call 137; refine hA.mono ?_; rintro e w' ⟨rfl, rfl⟩)
 go_ret
 exact ⟨rfl, rfl⟩
end Go.Proofs
namespace Go.Proofs
open Go.RowKit Go.Sort Go.Proofs.YteffpgliiilnjaaGreatDoor
set_option linter.unusedVariables false
theorem Tryz.isNaN_int (x : Int) (w : World) : Calls Tryz.prog 184 #[.int .i64 x] w fun e w' => e = .returned (.bool false) ∧ w' = w := by
 go_enter Tryz.func184, Tryz.ntmps184
 go_wp2
 go_ret
 exact ⟨rfl, rfl⟩
theorem Tryz.compare_int (x y : Int) (w : World) : Calls Tryz.prog 141 #[.int .i64 x, .int .i64 y] w fun e w' => e = .returned (.int .i64 (Lib.compareInt x y)) ∧ w' = w := by
 have h := fun x => Tryz.isNaN_int x w
 unfold Lib.compareInt
 by_cases h1 : x < y
 ·have h1' : decide (x < y) = true := by simpa using h1
  rw [if_pos h1]
  go_enter Tryz.func141, Tryz.ntmps141
  go_wp2_with (go_at_call 184; refine (h _).mono ?_; rintro e w' ⟨rfl, rfl⟩)
  go_ret
  exact ⟨rfl, rfl⟩
 ·have h1' : decide (x < y) = false := by simpa using h1
  rw [if_neg h1]
  by_cases h2 : y < x
  ·have h2' : decide (y < x) = true := by simpa using h2
   rw [if_pos h2]
   go_enter Tryz.func141, Tryz.ntmps141
   go_wp2_with (go_at_call 184; refine (h _).mono ?_; rintro e w' ⟨rfl, rfl⟩)
   go_ret
   exact ⟨rfl, rfl⟩
  ·have h2' : decide (y < x) = false := by simpa using h2
   rw [if_neg h2]
   go_enter Tryz.func141, Tryz.ntmps141
   go_wp2_with (go_at_call 184; refine (h _).mono ?_; rintro e w' ⟨rfl, rfl⟩)
   go_ret
   exact ⟨rfl, rfl⟩
theorem Tryz.or_int (b : Nat) (x y z : Int) (w : World) (hx : w.cell? ⟨b, 0, none⟩ = some (.int .i64 x)) (hy : w.cell? ⟨b, 1, none⟩ = some (.int .i64 y)) (hz : w.cell? ⟨b, 2, none⟩ = some (.int .i64 z)) :
  Calls Tryz.prog 140 #[.slice (some ⟨b, 0, none⟩) 3 3] w fun e w' => e = .returned (.int .i64 (or3 x y z)) ∧ w' = w := by
 unfold or3
 by_cases h1 : x = 0
 ·subst h1
  rw [if_neg (by simp)]
  by_cases h2 : y = 0
  ·subst h2
   rw [if_neg (by simp)]
   by_cases h3 : z = 0
   ·subst h3
    go_enter Tryz.func140, Tryz.ntmps140
    go_wp2
    refine wp_loop_rounds 4 ?_
    iterate 4 (rw [rounds_succ]; go_wp2)
    go_ret
    exact ⟨rfl, rfl⟩
   ·go_enter Tryz.func140, Tryz.ntmps140
    go_wp2
    refine wp_loop_rounds 3 ?_
    iterate 3 (rw [rounds_succ]; go_wp2)
    go_ret
    exact ⟨rfl, rfl⟩
  ·rw [if_pos h2]
   go_enter Tryz.func140, Tryz.ntmps140
   go_wp2
   refine wp_loop_rounds 2 ?_
   iterate 2 (rw [rounds_succ]; go_wp2)
   go_ret
   exact ⟨rfl, rfl⟩
 ·rw [if_pos h1]
  go_enter Tryz.func140, Tryz.ntmps140
  go_wp2
  refine wp_loop_rounds 1 ?_
  rw [rounds_succ]
  go_wp2
  go_ret
  exact ⟨rfl, rfl⟩
end Go.Proofs
namespace Go.Proofs
open Go.RowKit Go.Sort Go.Proofs.YteffpgliiilnjaaGreatDoor
set_option linter.unusedVariables false
def encSg (s : Seg) : List Value := [.int .i64 s.X1, .int .i64 s.Y1, .int .i64 s.X2, .int .i64 s.Y2]
theorem alloc_as_grow (w : World) (o : Obj) : w.alloc o = grow w #[o] := rfl
set_option maxHeartbeats 4000000 in
set_option maxRecDepth 100000 in
theorem Tryz.orderLines_lt (ax ay ax2 ay2 bx by_ bx2 by2 : Int) (w : World) (h1 : ay = ay2) (h2 : ¬ by_ = by2) : Calls Tryz.prog 89 #[.agg #[.int .i64 ax, .int .i64 ay, .int .i64 ax2, .int .i64 ay2], .agg #[.int .i64 bx, .int .i64 by_, .int .i64 bx2, .int .i64 by2]] w fun e w' => e = .returned (.int .i64 (-1)) ∧ ∃ q os, w' = grow (w.drewN q) os := by
 have e1 : (ay == ay2) = true := by simpa using h1
 have e2 : (by_ == by2) = false := by simpa using h2
 clear h1 h2
 go_enter Tryz.func89, Tryz.ntmps89
 go_wp2
 go_region_held3 (fun w' => w'.cell? ⟨w.heap.size, 0, none⟩ = some (.int .i64 ax) ∧ w'.cell? ⟨w.heap.size, 1, none⟩ = some (.int .i64 ay) ∧ w'.cell? ⟨w.heap.size, 2, none⟩ = some (.int .i64 ax2) ∧ w'.cell? ⟨w.heap.size, 3, none⟩ = some (.int .i64 ay2) ∧ w'.cell? ⟨w.heap.size + 1, 0, none⟩ = some (.int .i64 bx) ∧ w'.cell? ⟨w.heap.size + 1, 1, none⟩ = some (.int .i64 by_) ∧ w'.cell? ⟨w.heap.size + 1, 2, none⟩ = some (.int .i64 bx2) ∧ w'.cell? ⟨w.heap.size + 1, 3, none⟩ = some (.int .i64 by2)) (go_keep) (fail)
 all_goals go_wp2
 all_goals go_ret
 all_goals exact ⟨rfl, _, _, by rw [alloc_as_grow, alloc_as_grow, grow_grow, drew_grow]; rfl⟩
set_option maxHeartbeats 4000000 in
set_option maxRecDepth 100000 in
theorem Tryz.orderLines_gt (ax ay ax2 ay2 bx by_ bx2 by2 : Int) (w : World) (h1 : ¬ ay = ay2) (h2 : by_ = by2) : Calls Tryz.prog 89 #[.agg #[.int .i64 ax, .int .i64 ay, .int .i64 ax2, .int .i64 ay2], .agg #[.int .i64 bx, .int .i64 by_, .int .i64 bx2, .int .i64 by2]] w fun e w' => e = .returned (.int .i64 (1)) ∧ ∃ q os, w' = grow (w.drewN q) os := by
 have e1 : (ay == ay2) = false := by simpa using h1
 have e2 : (by_ == by2) = true := by simpa using h2
 clear h1 h2
 go_enter Tryz.func89, Tryz.ntmps89
 go_wp2
 go_region_held3 (fun w' => w'.cell? ⟨w.heap.size, 0, none⟩ = some (.int .i64 ax) ∧ w'.cell? ⟨w.heap.size, 1, none⟩ = some (.int .i64 ay) ∧ w'.cell? ⟨w.heap.size, 2, none⟩ = some (.int .i64 ax2) ∧ w'.cell? ⟨w.heap.size, 3, none⟩ = some (.int .i64 ay2) ∧ w'.cell? ⟨w.heap.size + 1, 0, none⟩ = some (.int .i64 bx) ∧ w'.cell? ⟨w.heap.size + 1, 1, none⟩ = some (.int .i64 by_) ∧ w'.cell? ⟨w.heap.size + 1, 2, none⟩ = some (.int .i64 bx2) ∧ w'.cell? ⟨w.heap.size + 1, 3, none⟩ = some (.int .i64 by2)) (go_keep) (fail)
 all_goals go_wp2
 all_goals go_ret
 all_goals exact ⟨rfl, _, _, by rw [alloc_as_grow, alloc_as_grow, grow_grow, drew_grow]; rfl⟩
set_option maxHeartbeats 4000000 in
set_option maxRecDepth 100000 in
theorem Tryz.orderLines_flat (ax ay ax2 ay2 bx by_ bx2 by2 : Int) (w : World) (h1 : ay = ay2) (h2 : by_ = by2) : Calls Tryz.prog 89 #[.agg #[.int .i64 ax, .int .i64 ay, .int .i64 ax2, .int .i64 ay2], .agg #[.int .i64 bx, .int .i64 by_, .int .i64 bx2, .int .i64 by2]] w fun e w' => e = .returned (.int .i64 (or3 (Lib.compareInt ay by_) (Lib.compareInt ax bx) (Lib.compareInt ax2 bx2))) ∧ ∃ q os, w' = grow (w.drewN q) os := by
 have e1 : (ay == ay2) = true := by simpa using h1
 have e2 : (by_ == by2) = true := by simpa using h2
 clear h1 h2
 go_enter Tryz.func89, Tryz.ntmps89
 go_wp2
 go_region_held3 (fun w' => w'.cell? ⟨w.heap.size, 0, none⟩ = some (.int .i64 ax) ∧ w'.cell? ⟨w.heap.size, 1, none⟩ = some (.int .i64 ay) ∧ w'.cell? ⟨w.heap.size, 2, none⟩ = some (.int .i64 ax2) ∧ w'.cell? ⟨w.heap.size, 3, none⟩ = some (.int .i64 ay2) ∧ w'.cell? ⟨w.heap.size + 1, 0, none⟩ = some (.int .i64 bx) ∧ w'.cell? ⟨w.heap.size + 1, 1, none⟩ = some (.int .i64 by_) ∧ w'.cell? ⟨w.heap.size + 1, 2, none⟩ = some (.int .i64 bx2) ∧ w'.cell? ⟨w.heap.size + 1, 3, none⟩ = some (.int .i64 by2)) (go_keep) (fail)
 all_goals go_wp2
 all_goals (go_region_held3 (fun w' => w'.cell? ⟨w.heap.size, 0, none⟩ = some (.int .i64 ax) ∧ w'.cell? ⟨w.heap.size, 1, none⟩ = some (.int .i64 ay) ∧ w'.cell? ⟨w.heap.size, 2, none⟩ = some (.int .i64 ax2) ∧ w'.cell? ⟨w.heap.size, 3, none⟩ = some (.int .i64 ay2) ∧ w'.cell? ⟨w.heap.size + 1, 0, none⟩ = some (.int .i64 bx) ∧ w'.cell? ⟨w.heap.size + 1, 1, none⟩ = some (.int .i64 by_) ∧ w'.cell? ⟨w.heap.size + 1, 2, none⟩ = some (.int .i64 bx2) ∧ w'.cell? ⟨w.heap.size + 1, 3, none⟩ = some (.int .i64 by2)) (go_keep) (first | (go_at_call 141; refine (Tryz.compare_int _ _ _).mono ?_; rintro e w' ⟨rfl, rfl⟩) | (go_at_call 140; refine (Tryz.or_int _ (Lib.compareInt ay by_) (Lib.compareInt ax bx) (Lib.compareInt ax2 bx2) _ (by simp; rw [World.cell?_alloc_at _ _ _ _ (by simp)]; rfl) (by simp; rw [World.cell?_alloc_at _ _ _ _ (by simp)]; rfl) (by simp; rw [World.cell?_alloc_at _ _ _ _ (by simp)]; rfl)).mono ?_; rintro e w' ⟨rfl, rfl⟩)))
 all_goals go_wp2
 all_goals go_ret
 all_goals exact ⟨rfl, 2, _, by simp only [alloc_as_grow, grow_grow, drew_grow]; rfl⟩
set_option maxHeartbeats 4000000 in
set_option maxRecDepth 100000 in
theorem Tryz.orderLines_up (ax ay ax2 ay2 bx by_ bx2 by2 : Int) (w : World) (h1 : ¬ ay = ay2) (h2 : ¬ by_ = by2) : Calls Tryz.prog 89 #[.agg #[.int .i64 ax, .int .i64 ay, .int .i64 ax2, .int .i64 ay2], .agg #[.int .i64 bx, .int .i64 by_, .int .i64 bx2, .int .i64 by2]] w fun e w' => e = .returned (.int .i64 (or3 (Lib.compareInt ax bx) (Lib.compareInt ay by_) (Lib.compareInt ay2 by2))) ∧ ∃ q os, w' = grow (w.drewN q) os := by
 have e1 : (ay == ay2) = false := by simpa using h1
 have e2 : (by_ == by2) = false := by simpa using h2
 clear h1 h2
 go_enter Tryz.func89, Tryz.ntmps89
 go_wp2
 go_region_held3 (fun w' => w'.cell? ⟨w.heap.size, 0, none⟩ = some (.int .i64 ax) ∧ w'.cell? ⟨w.heap.size, 1, none⟩ = some (.int .i64 ay) ∧ w'.cell? ⟨w.heap.size, 2, none⟩ = some (.int .i64 ax2) ∧ w'.cell? ⟨w.heap.size, 3, none⟩ = some (.int .i64 ay2) ∧ w'.cell? ⟨w.heap.size + 1, 0, none⟩ = some (.int .i64 bx) ∧ w'.cell? ⟨w.heap.size + 1, 1, none⟩ = some (.int .i64 by_) ∧ w'.cell? ⟨w.heap.size + 1, 2, none⟩ = some (.int .i64 bx2) ∧ w'.cell? ⟨w.heap.size + 1, 3, none⟩ = some (.int .i64 by2)) (go_keep) (fail)
 all_goals go_wp2
 all_goals (go_region_held3 (fun w' => w'.cell? ⟨w.heap.size, 0, none⟩ = some (.int .i64 ax) ∧ w'.cell? ⟨w.heap.size, 1, none⟩ = some (.int .i64 ay) ∧ w'.cell? ⟨w.heap.size, 2, none⟩ = some (.int .i64 ax2) ∧ w'.cell? ⟨w.heap.size, 3, none⟩ = some (.int .i64 ay2) ∧ w'.cell? ⟨w.heap.size + 1, 0, none⟩ = some (.int .i64 bx) ∧ w'.cell? ⟨w.heap.size + 1, 1, none⟩ = some (.int .i64 by_) ∧ w'.cell? ⟨w.heap.size + 1, 2, none⟩ = some (.int .i64 bx2) ∧ w'.cell? ⟨w.heap.size + 1, 3, none⟩ = some (.int .i64 by2)) (go_keep) (first | (go_at_call 141; refine (Tryz.compare_int _ _ _).mono ?_; rintro e w' ⟨rfl, rfl⟩) | (go_at_call 140; refine (Tryz.or_int _ (Lib.compareInt ax bx) (Lib.compareInt ay by_) (Lib.compareInt ay2 by2) _ (by simp; rw [World.cell?_alloc_at _ _ _ _ (by simp)]; rfl) (by simp; rw [World.cell?_alloc_at _ _ _ _ (by simp)]; rfl) (by simp; rw [World.cell?_alloc_at _ _ _ _ (by simp)]; rfl)).mono ?_; rintro e w' ⟨rfl, rfl⟩)))
 all_goals go_wp2
 all_goals go_ret
 all_goals exact ⟨rfl, 2, _, by simp only [alloc_as_grow, grow_grow, drew_grow]; rfl⟩
theorem Tryz.orderLines (a b : Seg) (w : World) : Calls Tryz.prog 89 #[.agg (encSg a).toArray, .agg (encSg b).toArray] w fun e w' => e = .returned (.int .i64 (ordS a b)) ∧ ∃ q os, w' = grow (w.drewN q) os := by
 obtain ⟨ax, ay, ax2, ay2⟩ := a
 obtain ⟨bx, by_, bx2, by2⟩ := b
 unfold ordS
 dsimp only
 by_cases h1 : ay = ay2 <;> by_cases h2 : by_ = by2
 ·rw [if_neg (by simp [h2]), if_neg (by simp [h1]), if_pos h1]
  exact Tryz.orderLines_flat _ _ _ _ _ _ _ _ w h1 h2
 ·rw [if_pos ⟨h1, h2⟩]
  exact Tryz.orderLines_lt _ _ _ _ _ _ _ _ w h1 h2
 ·rw [if_neg (by simp [h1]), if_pos ⟨h2, h1⟩]
  exact Tryz.orderLines_gt _ _ _ _ _ _ _ _ w h1 h2
 ·rw [if_neg (by simp [h1]), if_neg (by simp [h2]), if_neg h1]
  exact Tryz.orderLines_up _ _ _ _ _ _ _ _ w h1 h2
end Go.Proofs
namespace Go.Proofs
open Go.Shelf
def Tryz.laysSlF06_f88_ren : Go.Shelf.Ren := ⟨fun | 6 => 88 | 15 => 139 | 14 => 138 | 28 => 182 | 29 => 183 | 20 => 174 | 21 => 175 | 22 => 176 | 23 => 177 | 24 => 178 | 25 => 179 | 26 => 180 | 27 => 181 | 46 => 208 | 47 => 209 | 48 => 210 | 49 => 211 | 50 => 212 | 57 => 236 | n => n, fun | 22 => 26 | 24 => 43 | 25 => 167 | 3 => 3 | 39 => 184 | 0 => 0 | 53 => 265 | 55 => 267 | 4 => 4 | 46 => 259 | 45 => 258 | 50 => 193 | 5 => 5 | 9 => 9 | 66 => 285 | 70 => 289 | 76 => 310 | 77 => 105 | n => n, fun | n => n⟩
theorem Tryz.laysSlF06_f88 : Go.Proofs.SlLaysF0.n6 Tryz.prog Tryz.laysSlF06_f88_ren := {
 mixed := by kernel_rfl
 f6 := ⟨Tryz.f88.name, by decide, Tryz.func88.trans (congrArg some (by kernel_rfl))⟩
 f14 := ⟨Tryz.f138.name, by decide, Tryz.func138.trans (congrArg some (by kernel_rfl))⟩
 f15 := Tryz.func139.trans (congrArg some (by kernel_rfl))
 f20 := ⟨Tryz.f174.name, by decide, Tryz.func174.trans (congrArg some (by kernel_rfl))⟩
 f21 := ⟨Tryz.f175.name, by decide, Tryz.func175.trans (congrArg some (by kernel_rfl))⟩
 f22 := ⟨Tryz.f176.name, by decide, Tryz.func176.trans (congrArg some (by kernel_rfl))⟩
 f23 := ⟨Tryz.f177.name, by decide, Tryz.func177.trans (congrArg some (by kernel_rfl))⟩
 f24 := ⟨Tryz.f178.name, by decide, Tryz.func178.trans (congrArg some (by kernel_rfl))⟩
 f25 := ⟨Tryz.f179.name, by decide, Tryz.func179.trans (congrArg some (by kernel_rfl))⟩
 f26 := ⟨Tryz.f180.name, by decide, Tryz.func180.trans (congrArg some (by kernel_rfl))⟩
 f27 := ⟨Tryz.f181.name, by decide, Tryz.func181.trans (congrArg some (by kernel_rfl))⟩
 f28 := Tryz.func182.trans (congrArg some (by kernel_rfl))
 f29 := Tryz.func183.trans (congrArg some (by kernel_rfl))
 f46 := ⟨Tryz.f208.name, by decide, Tryz.func208.trans (congrArg some (by kernel_rfl))⟩
 f47 := Tryz.func209.trans (congrArg some (by kernel_rfl))
 f48 := Tryz.func210.trans (congrArg some (by kernel_rfl))
 f49 := ⟨Tryz.f211.name, by decide, Tryz.func211.trans (congrArg some (by kernel_rfl))⟩
 f50 := ⟨Tryz.f212.name, by decide, Tryz.func212.trans (congrArg some (by kernel_rfl))⟩
 f57 := ⟨Tryz.f236.name, by decide, Tryz.func236.trans (congrArg some (by kernel_rfl))⟩
 t0 := Tryz.underlying0
 a0 := Tryz.isAgg0
 z0 := Tryz.sizeOf0
 v0 := Tryz.zeroValue0
 t3 := Tryz.underlying3
 a3 := Tryz.isAgg3
 z3 := Tryz.sizeOf3
 v3 := Tryz.zeroValue3
 t4 := Tryz.underlying4
 a4 := Tryz.isAgg4
 z4 := Tryz.sizeOf4
 v4 := Tryz.zeroValue4
 t5 := Tryz.underlying5
 a5 := Tryz.isAgg5
 z5 := Tryz.sizeOf5
 v5 := Tryz.zeroValue5
 t9 := Tryz.underlying9
 a9 := Tryz.isAgg9
 z9 := Tryz.sizeOf9
 v9 := Tryz.zeroValue9
 t22 := Tryz.underlying26
 a22 := Tryz.isAgg26
 z22 := Tryz.sizeOf26
 v22 := Tryz.zeroValue26
 t25 := Tryz.underlying167
 a25 := Tryz.isAgg167
 z25 := Tryz.sizeOf167
 v25 := Tryz.zeroValue167
 t39 := Tryz.underlying184
 a39 := Tryz.isAgg184
 z39 := Tryz.sizeOf184
 v39 := Tryz.zeroValue184
 t45 := Tryz.underlying258
 a45 := Tryz.isAgg258
 z45 := Tryz.sizeOf258
 v45 := Tryz.zeroValue258
 t46 := Tryz.underlying259
 a46 := Tryz.isAgg259
 z46 := Tryz.sizeOf259
 v46 := Tryz.zeroValue259
 t50 := Tryz.underlying193
 a50 := Tryz.isAgg193
 z50 := Tryz.sizeOf193
 v50 := Tryz.zeroValue193
 t53 := Tryz.underlying265
 a53 := Tryz.isAgg265
 z53 := Tryz.sizeOf265
 v53 := Tryz.zeroValue265
 t55 := Tryz.underlying267
 a55 := Tryz.isAgg267
 z55 := Tryz.sizeOf267
 v55 := Tryz.zeroValue267
 t66 := Tryz.underlying285
 a66 := Tryz.isAgg285
 z66 := Tryz.sizeOf285
 v66 := Tryz.zeroValue285
 t70 := Tryz.underlying289
 a70 := Tryz.isAgg289
 z70 := Tryz.sizeOf289
 v70 := Tryz.zeroValue289
 t76 := Tryz.underlying310
 a76 := Tryz.isAgg310
 z76 := Tryz.sizeOf310
 v76 := Tryz.zeroValue310
 t77 := Tryz.underlying105
 a77 := Tryz.isAgg105
 z77 := Tryz.sizeOf105
 v77 := Tryz.zeroValue105 }
end Go.Proofs
namespace Go.Proofs.YteffpgliiilnjaaGreatDoor
open Go.Vm Go.RowKit Go.Lib Go.Sort
set_option linter.unusedVariables false
theorem ownsRow_putRowK {α : Type} [Inhabited α] {enc : α → List Value} {k : Nat} {w : World} {base : Nat} {e : TypeId} {g n cap q : Nat} {cs : List Value} {d : Array α} (h : w.ownsRow base e k (.slice (some ⟨g, 0, none⟩) n cap) n cs) (hd : d.size = n) :
  (putRowK enc k (Sort.ahead w q) g 0 d).ownsRow base e k (.slice (some ⟨g, 0, none⟩) n cap) n (flatK enc k d).toList := by
 rcases h.2 with ⟨e0, _⟩ | ⟨g', cap', cur, e0, hb, hg, hn, hm, hs, ht⟩
 ·cases e0
 ·injection e0 with e1 _ e3
  injection e1 with e1
  injection e1 with e1
  subst e1; subst e3
  have hle : n * k ≤ cap * k := Nat.mul_le_mul_right k hn
  refine ⟨by simp [hd], .inr ⟨g, cap, putCells id 0 (flatK enc k d) cur, rfl, hb, ?_, hn, hm, by simpa [putCells] using hs, ?_⟩⟩
  ·simp [putRowK, putRow, mapBlock, Sort.ahead, Array.getElem?_modify, hg, onCells]
  ·apply List.ext_getElem?
   intro j
   rw [List.getElem?_take, Array.getElem?_toList, Array.getElem?_toList]
   by_cases hj : j < n * k
   ·have hjc : j < cur.size := by omega
    rw [if_pos hj]
    simp only [putCells, Array.getElem?_mapIdx, Array.getElem?_eq_getElem hjc, Option.map_some]
    rw [if_pos ⟨Nat.zero_le _, by rw [size_flatK, hd]; omega⟩, Array.getElem?_eq_getElem (by rw [size_flatK, hd]; exact hj)]
    simp [getElem!_pos, show j < d.size * k by rw [hd]; exact hj]
   ·rw [if_neg hj, Array.getElem?_eq_none (by rw [size_flatK, hd]; omega)]
theorem ownsRow_grow8 {w : World} {os : Array Obj} {base : Nat} {e : TypeId} {k : Nat} {u : Value} {n : Nat} {cs : List Value} (h : w.ownsRow base e k u n cs) : (grow w os).ownsRow base e k u n cs := by
 refine ⟨h.1, ?_⟩
 rcases h.2 with hn | ⟨g, cap, cur, h1, h2, h3, rest⟩
 ·exact .inl hn
 ·exact .inr ⟨g, cap, cur, h1, h2, by rw [heap_grow_old _ _ (Array.getElem?_eq_some_iff.1 h3).1]; exact h3, rest⟩
theorem below_grow8 {B : Nat} {w0 w : World} {os : Array Obj} (h : Go.RowKit.Below B w0 w) (hB : B ≤ w.heap.size) : Go.RowKit.Below B w0 (grow w os) :=
 ⟨h.os, h.tape, h.output, by have := h.size; rw [size_grow]; omega, fun k hk => by rw [heap_grow_old _ _ (by omega)]; exact h.block k hk⟩
theorem rel_int {w : World} {ρ : Own} {st : Nat → Prop} {k : IntKind} {n : Int} {v : Value} (h : Rel EE w ρ st (.int k n) v) : v = .int k n := by
 cases h
 rfl
theorem k4 {k : Nat} (h : k < 4) : k = 0 ∨ k = 1 ∨ k = 2 ∨ k = 3 := by omega
theorem cells_of_rel {w : World} {ρ : Own} {st : Nat → Prop} {l : List Seg} {f : Nat → Value} (hr : ∀ i (h : i < l.length) k (hk : k < (EE.enc .seg l[i]).length), Rel EE w ρ st (EE.enc .seg l[i])[k] (f (i * UU.size .seg + k))) :
  ∀ i (h : i < l.length) k, k < 4 → f (i * 4 + k) = (encSg l[i])[k]! := by
 intro i hi k hk
 rcases k4 hk with rfl | rfl | rfl | rfl
 ·exact rel_int (hr i hi 0 (show 0 < 4 by decide))
 ·exact rel_int (hr i hi 1 (show 1 < 4 by decide))
 ·exact rel_int (hr i hi 2 (show 2 < 4 by decide))
 ·exact rel_int (hr i hi 3 (show 3 < 4 by decide))
theorem rel_of_cells {w : World} {ρ : Own} {st : Nat → Prop} {l : List Seg} {f : Nat → Value} (hr : ∀ i (h : i < l.length) k, k < 4 → f (i * 4 + k) = (encSg l[i])[k]!) :
  ∀ i (h : i < l.length) k (hk : k < (EE.enc .seg l[i]).length), Rel EE w ρ st (EE.enc .seg l[i])[k] (f (i * UU.size .seg + k)) := by
 intro i hi k hk
 have hk4 : k < 4 := hk
 have e := hr i hi k hk4
 rw [show i * UU.size .seg + k = i * 4 + k from rfl, e]
 rcases k4 hk4 with rfl | rfl | rfl | rfl
 ·exact .int _ _
 ·exact .int _ _
 ·exact .int _ _
 ·exact .int _ _
theorem flat_getD (l : List Seg) (i k : Nat) (hi : i < l.length) (hk : k < 4) : (flatK encSg 4 l.toArray).toList.getD (i * 4 + k) undef = (encSg l[i])[k]! := by
 have lt : i * 4 + k < (flatK encSg 4 l.toArray).size := by
  rw [size_flatK]
  have : l.toArray.size = l.length := by simp
  omega
 have h1 : (flatK encSg 4 l.toArray)[i * 4 + k]! = (encSg l.toArray[(i * 4 + k) / 4]!)[(i * 4 + k) % 4]! := get_flatK _ _ _ _ (by rw [size_flatK] at lt; exact lt)
 rw [getElem!_pos (flatK encSg 4 l.toArray) (i * 4 + k) lt] at h1
 have e1 : (i * 4 + k) / 4 = i := by omega
 have e2 : (i * 4 + k) % 4 = k := by omega
 rw [e1, e2, getElem!_pos l.toArray i (by simpa using hi)] at h1
 rw [List.getD_eq_getElem?_getD, Array.getElem?_toList, Array.getElem?_eq_getElem lt, Option.getD_some, h1]
 simp
theorem sort_seg {blk cap : Nat} {l : List Seg} {w : World} (hl : properL l) (hsz : l.length ≤ 100000) (hH : HoldsK encSg 4 w blk 0 l.toArray) (hblk : blk < w.heap.size) :
  Calls Tryz.prog 88 #[.slice (some ⟨blk, 0, none⟩) l.length cap, .func (.func 89) #[] #[]] w fun e w' => e = .returned (.tuple #[]) ∧ ∃ n os, w' = grow (putRowK encSg 4 (Sort.ahead w n) blk 0 (psort l).toArray) os := by
 have eg : ∀ args w, (callFunc 89 args).run Tryz.prog w = .ok (.enter 89 args) w := fun args w => callFunc_run (fn := Tryz.f89) Tryz.func89 (by kernel_rfl) rfl args w
 have h := AnyQ.slices_SortFunc Tryz.laysSlF06_f88 4 (fun w => by kernel_rfl) (fun w => by kernel_rfl) encSg (fun _ => rfl) (fun x v hv => by
  simp only [encSg, List.mem_cons, List.not_mem_nil, or_false] at hv
  rcases hv with rfl | rfl | rfl | rfl <;> rfl) ordS ordS_swo 89 #[] blk 0 cap l.toArray w eg (fun m os dk hdk x y => Tryz.orderLines x y _) hH hblk (by simp; omega)
 have h' : Calls Tryz.prog 88 #[.slice (some ⟨blk, 0, none⟩) l.length cap, .func (.func 89) #[] #[]] w fun e w' =>
   e = .returned (.tuple #[]) ∧ ∃ d' n os, PermIn 0 l.toArray.size l.toArray d' ∧ SortedIn (ltOf ordS) 0 l.toArray.size d' ∧ w' = sortWorldK encSg 4 w blk 0 n d' os := h
 refine h'.mono ?_
 rintro e w' ⟨rfl, d', n, os, ⟨p1, p2, p3⟩, hs, rfl⟩
 refine ⟨rfl, n, os, ?_⟩
 have e1 : d'.toList.Perm l := by
  have q1 : (d'.extract 0 l.toArray.size).toList = d'.toList := by rw [← p1]; simp
  have q2 : (l.toArray.extract 0 l.toArray.size).toList = l := by simp
  rw [q1, q2] at p3
  exact p3
 have hsz' : d'.toList.length = l.toArray.size := by rw [Array.length_toList]; exact p1
 have e2 : d'.toList = psort l := by
  refine psort_one hl e1 ?_
  rw [List.pairwise_iff_getElem]
  intro i j hi hj hij
  have := hs i j (Nat.zero_le _) hij (by rw [hsz'] at hj; exact hj)
  rw [ltO_not] at this
  have gi : d'[i]! = d'.toList[i] := by rw [getElem!_pos _ _ (by rw [hsz'] at hi; rw [p1]; exact hi)]; simp
  have gj : d'[j]! = d'.toList[j] := by rw [getElem!_pos _ _ (by rw [hsz'] at hj; rw [p1]; exact hj)]; simp
  rw [gi, gj] at this
  exact this
 unfold sortWorldK
 rw [← e2]
theorem sort_none (c : Nat) (w : World) : Calls Tryz.prog 88 #[.slice none 0 c, .func (.func 89) #[] #[]] w fun e w' => e = .returned (.tuple #[]) ∧ w' = w :=
 AnyF.slices_SortFunc_none Tryz.laysSlF06_f88 none c (.func (.func 89) #[] #[]) w
noncomputable section
def eSort : EModel UU
 | [.osl 0 g, .fn 89 []], .row .seg g' l => cond (Nat.beq g g') (some ([properL l ∧ l.length ≤ 100000], .raw (.tuple #[]), .row .seg g' (psort l))) none
 | _, _ => none
theorem eff_sort {C : Cfg UU} (hP : C.P = Tryz.prog) (hE : C.E = EE) (w0 : World) : EffFn C 88 eSort w0 := by
 refine ⟨fun args w => by rw [hP]; exact callFunc_run (fn := Tryz.f88) Tryz.func88 (by kernel_rfl) rfl args w, fun st ρ w args k0 xs ob ob' cs r hb hst hdom hsep hob hsz hrel hc0 hm hc hc1 hpr hown => ?_⟩
 unfold eSort at hm
 split at hm
 ·rename_i g g' l
  obtain ⟨hg, hm⟩ := cond_some hm
  obtain rfl := Nat.eq_of_beq_eq_true hg
  cases hm
  obtain rfl : 0 = k0 := by cases hown; rfl
  obtain ⟨h1, h2⟩ : properL l ∧ l.length ≤ 100000 := hc
  rw [hE] at hob hrel ⊢
  obtain ⟨u, cells, hu, hup, hro, hcs⟩ := hob
  have e0 := hrel 0 (by simp)
  have e1 := hrel 1 (by simp)
  obtain ⟨al⟩ := args
  match al, hsz with
  | [x, y], _ =>
   simp at e0 e1
   obtain rfl : x = u := by
    cases e0 with
    | osl _ _ u' hu' _ =>
     rw [hu] at hu'
     cases hu'
     rfl
    | oslOld _ _ g2 u' v hu' hlt =>
     rw [hu] at hu'
     cases hu'
     omega
   obtain rfl : y = .func (.func 89) #[] #[] := by
    cases e1 with
    | fn _ _ vs hn hl =>
     have : vs = #[] := Array.eq_empty_of_size_eq_zero hn
     rw [this]
   rw [hP]
   have hcells := cells_of_rel (f := fun j => cells.getD j undef) hcs
   have hbase : w0.heap.size ≤ w.heap.size := hb.size
   have fin : ∀ (w' : World) (cs' : List Value), w'.ownsRow w0.heap.size (UU.ety .seg) (UU.size .seg) x (psort l).length cs' → (∀ i (h : i < (psort l).length) k, k < 4 → cs'.getD (i * 4 + k) undef = (encSg (psort l)[i])[k]!) → Go.RowKit.Below w0.heap.size w w' →
     (∀ b, b < w.heap.size → blk x ≠ some b → w'.heap[b]? = w.heap[b]?) → ∃ v ρ', Ending.returned (.tuple #[]) = .returned v ∧ (((AVal.raw (.tuple #[]) : AVal UU).pureRes = true → Rel EE w' noOwn (fun _ => False) (.raw (.tuple #[])) v) ∧ (ownRes 0 (.raw (.tuple #[]) : AVal UU) (.row .seg g (psort l)) = true → Rel EE w' ρ' (fun _ => False) (.raw (.tuple #[])) v)) ∧
   RelObj EE w' ρ' (fun b => (st b ∨ w.heap.size ≤ b ∨ ∃ nm g u, ρ nm = some (g, u) ∧ blk u = some b) ∧ b < w'.heap.size ∧ ∀ nm g u, ρ' nm = some (g, u) → blk u ≠ some b) w0.heap.size 0 (.row .seg g (psort l)) ∧
   (∀ nm g' u, ρ' nm = some (g', u) → nm.id = 0 ∧ ((AObj.row .seg g (psort l) : AObj UU).simple = true → nm = .ob 0)) ∧ Chg (fun _ => False) (fun i => i = 0) w0.heap.size ρ ρ' w w' := by
    intro w' cs' q1 q2 q3 q4
    refine ⟨_, ρ, rfl, ⟨fun _ => .raw _, fun h => by cases h⟩, ⟨x, cs', hu, hup, q1, rel_of_cells (f := fun j => cs'.getD j undef) q2⟩, hdom, ⟨fun _ _ => rfl, fun _ _ _ _ h => .inl h, q3, fun b hb hne => q4 b hb (hne (.ob 0) _ _ rfl hu), fun nm q u k hn h hbl => .inl ⟨nm, q, u, hn, h, hbl⟩, fun nm nm' q q' u u' k _ _ h h' hne hbl => hsep _ _ _ _ _ _ k h h' hne hbl⟩⟩
   have hlen : (psort l).length = l.length := (psort_perm l).length_eq
   rcases hro.2 with ⟨rfl, hn⟩ | ⟨b, cap, cur, rfl, q1, q2, q3, q4, q5, q6⟩
   ·have hl0 : l = [] := List.eq_nil_of_length_eq_zero hn
    subst hl0
    refine (sort_none 0 w).mono ?_
    rintro e w' ⟨rfl, rfl⟩
    have e3 : psort ([] : List Seg) = [] := List.eq_nil_of_length_eq_zero (by rw [hlen]; rfl)
    refine fin w' [] ?_ (fun i h => ?_) (Go.RowKit.Below.refl _ _) (fun b hb _ => rfl)
    ·rw [e3]
     exact World.ownsRow_nil _ _ _ _
    ·rw [e3] at h
     exact absurd h (by simp)
   ·have hbl : b < w.heap.size := (Array.getElem?_eq_some_iff.1 q2).1
    have hH : HoldsK encSg 4 w b 0 l.toArray := by
     intro j hj
     rw [size_flatK] at hj
     have hj' : j < l.length * 4 := by simpa using hj
     have hcur : (cur.toList.take (l.length * 4))[j]? = cells[j]? := by
      have : UU.size .seg = 4 := rfl
      rw [this] at q6
      rw [q6]
     rw [List.getElem?_take, if_pos hj', Array.getElem?_toList] at hcur
     have hjc : j < cells.length := by
      have := hro.1
      have e4 : UU.size .seg = 4 := rfl
      rw [e4] at this
      omega
     rw [List.getElem?_eq_getElem hjc] at hcur
     have hv := hcells (j / 4) (by omega) (j % 4) (Nat.mod_lt _ (by decide))
     have hjj : j / 4 * 4 + j % 4 = j := by omega
     rw [hjj, List.getD_eq_getElem?_getD, List.getElem?_eq_getElem hjc, Option.getD_some] at hv
     refine ⟨?_, by simp [World.frozen?, q2]⟩
     rw [Nat.zero_add, get_flatK _ _ _ _ hj]
     simp only [World.cell?, q2]
     simp only [Option.isSome_none, Bool.false_eq_true, if_false]
     rw [hcur, hv]
     rw [getElem!_pos l.toArray (j / 4) (by simp; omega)]
     simp
    refine (sort_seg h1 h2 hH hbl).mono ?_
    rintro e w' ⟨rfl, n, os, rfl⟩
    have hsz2 : (psort l).toArray.size = l.length := by simp [hlen]
    refine fin _ (flatK encSg 4 (psort l).toArray).toList ?_ (fun i hi k hk => flat_getD _ _ _ hi hk) ?_ (fun b' hb' hne => ?_)
    ·rw [hlen]
     exact ownsRow_grow8 (ownsRow_putRowK hro hsz2)
    ·refine below_grow8 ?_ (by rw [size_putRowK]; exact hbase)
     exact below_putRow (Go.RowKit.Below.refl _ _) q1
    ·have hne' : b ≠ b' := fun e => hne (by rw [e]; rfl)
     rw [heap_grow_old _ _ (by rw [size_putRowK]; exact hb')]
     simp [putRowK, putRow, mapBlock, Sort.ahead, Array.getElem?_modify, hne']
 ·cases hm
end
end Go.Proofs.YteffpgliiilnjaaGreatDoor
namespace Go.Proofs.YteffpgliiilnjaaGreatDoor
open Go.Vm Go.RowKit
set_option linter.unusedVariables false
noncomputable section
set_option maxHeartbeats 4000000 in
set_option maxRecDepth 100000 in
theorem code_calls (n : Int) (w : World) (hg : w.cell? ⟨0, 0, none⟩ = some (.iface 244 (.agg #[.pointer (some ⟨9, 73, none⟩)]))) :
  Calls Tryz.prog 31 #[.iface 161 (.agg #[.int .i64 n])] w fun e w' => e = .returned (.int .i64 n) ∧ Below w.heap.size w w' := by
 have hlt : 0 < w.heap.size := by
  rcases Nat.eq_zero_or_pos w.heap.size with h0 | h
  ·simp [World.cell?, h0] at hg
  ·exact h
 have hA := Tryz.errors_As n ⟨w.heap.size, 0, none⟩ (.int .i64 0) (w.alloc (.cells #[.int .i64 0] 161)) (by rw [World.cell?_alloc_lt _ _ ⟨0, 0, none⟩ hlt]; exact hg) (by simp) (World.frozen?_alloc_at _ _ _ _ rfl)
 have hA' : Calls Tryz.prog 86 #[.iface 161 (.agg #[.int .i64 n]), .iface 165 (.pointer (some ⟨w.heap.size, 0, none⟩))] (w.alloc (.cells #[.int .i64 0] 161)) fun e w' => e = .returned (.bool true) ∧ w'.cell? ⟨w.heap.size, 0, none⟩ = some (.int .i64 n) ∧ Below w.heap.size w w' := hA.mono (by
  rintro e w' ⟨rfl, rfl⟩
  refine ⟨rfl, ?_, ?_⟩
  ·refine World.cell?_setCell_same _ _ _ (u := .int .i64 0) ?_
   rw [World.cell?_alloc_lt _ _ ⟨w.heap.size, 0, none⟩ (by simp; omega), World.cell?_alloc_lt _ _ ⟨w.heap.size, 0, none⟩ (by simp; omega), World.cell?_alloc_lt _ _ ⟨w.heap.size, 0, none⟩ (by simp; omega), World.cell?_alloc_lt _ _ ⟨w.heap.size, 0, none⟩ (by simp), World.cell?_alloc_at _ _ _ _ rfl]
   rfl
  ·exact ((((((Below.refl _ w).alloc (Nat.le_refl _) _).alloc (by simp) _).alloc (by simp; omega) _).alloc (by simp; omega) _).alloc (by simp; omega) _).setCell (by simp) _)
 clear hA hg
 go_enter Tryz.func31, Tryz.ntmps31
 go_wp2_with (go_at_call 86; refine hA'.mono ?_; rintro e w' ⟨rfl, hc, hb⟩)
 go_ret
 exact ⟨rfl, hb⟩
def mCode : Model UU
 | [.raw (.iface 161 (.agg ⟨[.int .i64 n]⟩))] => some ([], .int .i64 n)
 | _ => none
theorem sCode {C : Cfg UU} (hE : C.E = EE) (hs : SumOK C) (hP : C.P = Tryz.prog) (hI : ∀ w, C.inv w → inv1 w) : SumOK (C.add 31 mCode) := by
 refine hs.put ⟨fun args w => by rw [hP]; exact callFunc_run (fn := Tryz.f31) Tryz.func31 (by kernel_rfl) rfl args w, ?_⟩
 intro N w args xs cs r hinv hN hargs hm hc
 unfold mCode at hm
 split at hm
 ·rename_i n
  cases hm
  obtain ⟨a, rfl, ha⟩ := args1 hargs
  rw [hP]
  cases ha
  refine (code_calls n w (hI w hinv).1.2).mono ?_
  rintro e w' ⟨rfl, hb⟩
  exact ⟨_, rfl, Fresh.of rfl rfl (.int _ _), hb⟩
 ·cases hm
def mDia : Model UU
 | [] => some ([], .frz .D)
 | _ => none
theorem sDia {C : Cfg UU} (hE : C.E = EE) (hs : SumOK C) (hP : C.P = Tryz.prog) : SumOK (C.add 51 mDia) := by
 refine hs.put ⟨fun args w => by rw [hP]; exact callFunc_run (fn := Tryz.f51) Tryz.func51 (by kernel_rfl) rfl args w, ?_⟩
 intro N w args xs cs r hinv hN hargs hm hc
 unfold mDia at hm
 split at hm
 ·cases hm
  have : args = #[] := Array.eq_empty_of_size_eq_zero hargs.1
  subst this
  rw [hP, hE]
  refine (dialects_calls w).mono ?_
  rintro e w' ⟨rfl, rfl⟩
  refine ⟨_, rfl, Fresh.of rfl rfl (rfrz .D ?_), gr_below w _⟩
  have st : ∀ i, i < 4 → Out' N (gr w [M (lD (.map (some (w.heap.size + 1))) (.map (some (w.heap.size + 2))) (.map (some (w.heap.size + 3)))), M (strs wl1), M (strs wl2), M (strs wl3)]) (w.heap.size + i) := fun i hi => by
   refine ⟨?_, fun h => by have := hN _ h; omega⟩
   show _ < (w.heap ++ _).size
   simp
   omega
  exact ⟨_, _, _, ⟨_, rfl, st 1 (by omega), gr_at w _ 1⟩, ⟨_, rfl, st 2 (by omega), gr_at w _ 2⟩, ⟨_, rfl, st 3 (by omega), gr_at w _ 3⟩, ⟨_, rfl, st 0 (by omega), gr_at w _ 0⟩⟩
 ·cases hm
def C_hs : Cfg UU := ((((C_cof1.add 87 mClone87).add 33 mClone33).add 31 mCode).add 51 mDia).addEff 88 eSort
theorem s_hs : SumOK C_hs := by
 have h1 := sClone87 rfl s_cof1 rfl
 have h2 := sClone33 rfl h1 rfl
 have h3 := sCode rfl h2 rfl fun _ h => h
 have h4 := sDia rfl h3 rfl
 exact h4.putEff fun w0 _ => eff_sort rfl rfl w0
def inlF (f : FuncId) : Option (Func × Code) := cond (Nat.beq f 30) (some (Tryz.f30, bo Tryz.f30)) none
theorem inlF_ok (f : FuncId) (fn : Func) (c : Code) (h : inlF f = some (fn, c)) : Tryz.prog.funcs[f]? = some fn ∧ fn.body = some c ∧ ∀ (args : Array Value) (w : World), (callFunc f args).run Tryz.prog w = .ok (.enter f args) w := by
 unfold inlF at h
 obtain ⟨hf, h⟩ := cond_some h
 obtain rfl := Nat.eq_of_beq_eq_true hf
 cases h
 exact ⟨Tryz.func30, by kernel_rfl, fun args w => callFunc_run (fn := Tryz.f30) Tryz.func30 (by kernel_rfl) rfl args w⟩
def inl1 (C : Cfg UU) (hP : C.P = Tryz.prog := by rfl) : Cfg UU := { C with inl := inlF, inlOK := fun f fn c h => by rw [hP]; exact inlF_ok f fn c h, dep := 1 }
theorem addI {C : Cfg UU} (hP : C.P = Tryz.prog) (hs : SumOK C) (hmix : C.P.follows .mixedOrders = true) {f : FuncId} {m : Model UU} {fn : Func} {c : Code} (hf : C.P.funcs[f]? = some fn) (hn : (fn.name == "runtime.NumGoroutine") = false)
  (hb : fn.body = some c) (hx : ∀ xs cs r, m xs = some (cs, r) → conj cs → (Nat.ble xs.length fn.ntmps && Nat.ble fn.ntmps 1000000) = true ∧ ∃ M fuel fr, Done (exec (inl1 C hP) fn.ntmps M fuel 0 c (initSt xs) (AEnds (inl1 C hP) fr fn fun r' => r' = r))) : SumOK (C.add f m) := by
 have hs' : SumOK (inl1 C hP) := hs
 have := SumOK.addD (C := inl1 C hP) hs' hmix hf hn hb hx
 exact this
set_option maxRecDepth 100000
def b_zq_0 (F n r : Nat) (S : ASt UU) (K : AEx → ASt UU → Prop) : Prop := iter (execG (inliner M_zq F 0 C_hs) C_hs Tryz.f32.ntmps M_zq F 0 (cL (cB (cS (cF (cS (cS (cS (cS (bo Tryz.f32)))))))))) (M_zq 0 0) n r S K
def k_zq_0 (F : Nat) (Post : AVal UU → Prop) : AEx → ASt UU → Prop := kBlock 0 (kSeq (inliner M_zq F 0 C_hs) C_hs Tryz.f32.ntmps M_zq F 0 (cS (cS (cS (cS (cS (bo Tryz.f32)))))) (AEnds C_hs true Tryz.f32 Post))
theorem step_zq_0 (F n r : Nat) (K : AEx → ASt UU → Prop) (t14 t15 : Int) (l121 l122 : List Seg) : b_zq_0 F (n + 1) r (st_zq_0 t14 t15 l121 l122) K = g_zq_s0 (fun t14 t15 l121 l122 => b_zq_0 F n (r + 1) (st_zq_0 t14 t15 l121 l122) K) (fun t14 t15 l121 l122 => K (.exit 0) (st_zq_0 t14 t15 l121 l122)) t14 t15 l121 l122 := by kernel_rfl
theorem cont_zq_0_0 (F : Nat) (Post : AVal UU → Prop) (t14 t15 : Int) (l121 l122 : List Seg) : k_zq_0 F Post (.exit 0) (st_zq_0 t14 t15 l121 l122) = g_zq_c0_0 (fun r0 => Post (.new .seg r0)) t14 t15 l121 l122 := by kernel_rfl
theorem entry_zq (F : Nat) (Post : AVal UU → Prop) (a0 : List Seg) : exec C_hs Tryz.f32.ntmps M_zq F 0 (bo Tryz.f32) (initSt [.sl .seg a0]) (AEnds C_hs true Tryz.f32 Post) = g_zq_e a0 (fun r0 => Post (.new .seg r0)) (fun t14 t15 l121 l122 => b_zq_0 F F 0 (st_zq_0 t14 t15 l121 l122) (k_zq_0 F Post)) := by kernel_rfl
theorem loop_zq_0 (F : Nat) (K : AEx → ASt UU → Prop) : ∀ (n r : Nat) (t14 t15 : Int) (l121 l122 : List Seg), b_zq_0 F n r (st_zq_0 t14 t15 l121 l122) K = w_zq_0 F  (fun t14 t15 l121 l122 => K (.exit 0) (st_zq_0 t14 t15 l121 l122)) n t14 t15 l121 l122 := by
 intro n
 induction n with
 | zero => intros; rfl
 | succ n ih =>
  intro r t14 t15 l121 l122
  have e : (fun t14 t15 l121 l122 => b_zq_0 F n (r + 1) (st_zq_0 t14 t15 l121 l122) K) = w_zq_0 F  (fun t14 t15 l121 l122 => K (.exit 0) (st_zq_0 t14 t15 l121 l122)) n := by
   funext t14 t15 l121 l122
   exact ih (r + 1) t14 t15 l121 l122
  rw [step_zq_0, e]
  rfl
theorem nl_zq_0 (F : Nat) (Post : AVal UU → Prop) (t14 t15 : Int) (l121 l122 : List Seg) : b_zq_0 F F 0 (st_zq_0 t14 t15 l121 l122) (k_zq_0 F Post) = n_zq_0 F (fun r0 => Post (.new .seg r0)) t14 t15 l121 l122 := by
 rw [loop_zq_0]
 have h0 : (fun t14 t15 l121 l122 => k_zq_0 F Post (.exit 0) (st_zq_0 t14 t15 l121 l122)) = (fun t14 t15 l121 l122 => g_zq_c0_0 (fun r0 => Post (.new .seg r0)) t14 t15 l121 l122) := by
  funext t14 t15 l121 l122
  rw [cont_zq_0_0]
 rw [h0]
 rfl
theorem exec_zq (F : Nat) (Post : AVal UU → Prop) (a0 : List Seg) : exec C_hs Tryz.f32.ntmps M_zq F 0 (bo Tryz.f32) (initSt [.sl .seg a0]) (AEnds C_hs true Tryz.f32 Post) = w_zq F a0 (fun r0 => Post (.new .seg r0)) := by
 rw [entry_zq]
 have e0 : (fun t14 t15 l121 l122 => b_zq_0 F F 0 (st_zq_0 t14 t15 l121 l122) (k_zq_0 F Post)) = (n_zq_0 F (fun r0 => Post (.new .seg r0))) := by
  funext t14 t15 l121 l122
  exact nl_zq_0 F Post t14 t15 l121 l122
 rw [e0]
 rfl
def m_zq : Model UU
 | [.sl .seg a0] => some ([pre_zq a0], .new .seg (sp_zq a0))
 | _ => none
def C_zq : Cfg UU := C_hs.add 32 m_zq
theorem s_zq : SumOK C_zq := by
 refine s_hs.addD mixed (fn := Tryz.f32) (c := bo Tryz.f32) Tryz.func32 (by kernel_rfl) (by kernel_rfl) ?_
 intro xs cs r h hc
 unfold m_zq at h
 split at h
 ·rename_i a0
  cases h
  obtain ⟨F, hF⟩ := ok_zq a0 hc
  refine ⟨by kernel_rfl, M_zq, F, true, ⟨?_⟩⟩
  rw [exec_zq]
  refine hF _ ?_
  rfl
 ·cases h
set_option maxRecDepth 100000
def b_zr_0 (F n r : Nat) (S : ASt UU) (K : AEx → ASt UU → Prop) : Prop := iter (execG (inliner M_zr F 1 (inl1 C_zq)) (inl1 C_zq) Tryz.f9.ntmps M_zr F 0 (cL (cB (cS (cF (cS (cS (cS (cS (bo Tryz.f9)))))))))) (M_zr 0 0) n r S K
def k_zr_0 (F : Nat) (Post : AVal UU → Prop) : AEx → ASt UU → Prop := kBlock 0 (kSeq (inliner M_zr F 1 (inl1 C_zq)) (inl1 C_zq) Tryz.f9.ntmps M_zr F 0 (cS (cS (cS (cS (cS (bo Tryz.f9)))))) (AEnds (inl1 C_zq) true Tryz.f9 Post))
theorem step_zr_0 (F n r : Nat) (K : AEx → ASt UU → Prop) (t5 : Int) (t24 : List Opn) (t25 t26 : Int) (c23_0 c23_1 : ByteArray) (c23_2 c23_3 c23_4 c23_5 : Int) (c23_6 c23_7 : List Rect) (c23_8 c23_9 : Int) (l50 : List Rect) (l51 : List Seg) : b_zr_0 F (n + 1) r (st_zr_0 t5 t24 t25 t26 c23_0 c23_1 c23_2 c23_3 c23_4 c23_5 c23_6 c23_7 c23_8 c23_9 l50 l51) K = g_zr_s0 (fun t5 t24 t25 t26 c23_0 c23_1 c23_2 c23_3 c23_4 c23_5 c23_6 c23_7 c23_8 c23_9 l50 l51 => b_zr_0 F n (r + 1) (st_zr_0 t5 t24 t25 t26 c23_0 c23_1 c23_2 c23_3 c23_4 c23_5 c23_6 c23_7 c23_8 c23_9 l50 l51) K) (fun t5 t24 t25 t26 c23_0 c23_1 c23_2 c23_3 c23_4 c23_5 c23_6 c23_7 c23_8 c23_9 l50 l51 => K .ret (st_zr_0 t5 t24 t25 t26 c23_0 c23_1 c23_2 c23_3 c23_4 c23_5 c23_6 c23_7 c23_8 c23_9 l50 l51)) (fun t5 t24 t25 t26 c23_0 c23_1 c23_2 c23_3 c23_4 c23_5 c23_6 c23_7 c23_8 c23_9 l50 l51 => K (.exit 0) (st_zr_0 t5 t24 t25 t26 c23_0 c23_1 c23_2 c23_3 c23_4 c23_5 c23_6 c23_7 c23_8 c23_9 l50 l51)) t5 t24 t25 t26 c23_0 c23_1 c23_2 c23_3 c23_4 c23_5 c23_6 c23_7 c23_8 c23_9 l50 l51 := by kernel_rfl
theorem cont_zr_0_0 (F : Nat) (Post : AVal UU → Prop) (t5 : Int) (t24 : List Opn) (t25 t26 : Int) (c23_0 c23_1 : ByteArray) (c23_2 c23_3 c23_4 c23_5 : Int) (c23_6 c23_7 : List Rect) (c23_8 c23_9 : Int) (l50 : List Rect) (l51 : List Seg) : k_zr_0 F Post .ret (st_zr_0 t5 t24 t25 t26 c23_0 c23_1 c23_2 c23_3 c23_4 c23_5 c23_6 c23_7 c23_8 c23_9 l50 l51) = g_zr_c0_0 (fun r0_Lines r0_Stamps r1 => Post (.tup [.agg [.new .seg r0_Lines, .new .rect r0_Stamps], .int .i64 r1])) t5 t24 t25 t26 c23_0 c23_1 c23_2 c23_3 c23_4 c23_5 c23_6 c23_7 c23_8 c23_9 l50 l51 := by kernel_rfl
theorem cont_zr_0_1 (F : Nat) (Post : AVal UU → Prop) (t5 : Int) (t24 : List Opn) (t25 t26 : Int) (c23_0 c23_1 : ByteArray) (c23_2 c23_3 c23_4 c23_5 : Int) (c23_6 c23_7 : List Rect) (c23_8 c23_9 : Int) (l50 : List Rect) (l51 : List Seg) : k_zr_0 F Post (.exit 0) (st_zr_0 t5 t24 t25 t26 c23_0 c23_1 c23_2 c23_3 c23_4 c23_5 c23_6 c23_7 c23_8 c23_9 l50 l51) = g_zr_c0_1 (fun r0_Lines r0_Stamps r1 => Post (.tup [.agg [.new .seg r0_Lines, .new .rect r0_Stamps], .int .i64 r1])) t5 t24 t25 t26 c23_0 c23_1 c23_2 c23_3 c23_4 c23_5 c23_6 c23_7 c23_8 c23_9 l50 l51 := by kernel_rfl
theorem entry_zr (F : Nat) (Post : AVal UU → Prop) (qe qf : ByteArray) (qg qh qa qb : Int) (qc qd : List Rect) (a1 : List Opn) : exec (inl1 C_zq) Tryz.f9.ntmps M_zr F 0 (bo Tryz.f9) (initSt [.agg [.str qe, .str qf, .int .i64 qg, .int .i64 qh, .int .i64 qa, .int .i64 qb, .sl .rect qc, .sl .rect qd], .sl .op a1]) (AEnds (inl1 C_zq) true Tryz.f9 Post) = g_zr_e qe qf qg qh qa qb qc qd a1 (fun r0_Lines r0_Stamps r1 => Post (.tup [.agg [.new .seg r0_Lines, .new .rect r0_Stamps], .int .i64 r1])) (fun t5 t24 t25 t26 c23_0 c23_1 c23_2 c23_3 c23_4 c23_5 c23_6 c23_7 c23_8 c23_9 l50 l51 => b_zr_0 F F 0 (st_zr_0 t5 t24 t25 t26 c23_0 c23_1 c23_2 c23_3 c23_4 c23_5 c23_6 c23_7 c23_8 c23_9 l50 l51) (k_zr_0 F Post)) := by kernel_rfl
theorem loop_zr_0 (F : Nat) (K : AEx → ASt UU → Prop) : ∀ (n r : Nat) (t5 : Int) (t24 : List Opn) (t25 t26 : Int) (c23_0 c23_1 : ByteArray) (c23_2 c23_3 c23_4 c23_5 : Int) (c23_6 c23_7 : List Rect) (c23_8 c23_9 : Int) (l50 : List Rect) (l51 : List Seg), b_zr_0 F n r (st_zr_0 t5 t24 t25 t26 c23_0 c23_1 c23_2 c23_3 c23_4 c23_5 c23_6 c23_7 c23_8 c23_9 l50 l51) K = w_zr_0 F  (fun t5 t24 t25 t26 c23_0 c23_1 c23_2 c23_3 c23_4 c23_5 c23_6 c23_7 c23_8 c23_9 l50 l51 => K .ret (st_zr_0 t5 t24 t25 t26 c23_0 c23_1 c23_2 c23_3 c23_4 c23_5 c23_6 c23_7 c23_8 c23_9 l50 l51)) (fun t5 t24 t25 t26 c23_0 c23_1 c23_2 c23_3 c23_4 c23_5 c23_6 c23_7 c23_8 c23_9 l50 l51 => K (.exit 0) (st_zr_0 t5 t24 t25 t26 c23_0 c23_1 c23_2 c23_3 c23_4 c23_5 c23_6 c23_7 c23_8 c23_9 l50 l51)) n t5 t24 t25 t26 c23_0 c23_1 c23_2 c23_3 c23_4 c23_5 c23_6 c23_7 c23_8 c23_9 l50 l51 := by
 intro n
 induction n with
 | zero => intros; rfl
 | succ n ih =>
  intro r t5 t24 t25 t26 c23_0 c23_1 c23_2 c23_3 c23_4 c23_5 c23_6 c23_7 c23_8 c23_9 l50 l51
  have e : (fun t5 t24 t25 t26 c23_0 c23_1 c23_2 c23_3 c23_4 c23_5 c23_6 c23_7 c23_8 c23_9 l50 l51 => b_zr_0 F n (r + 1) (st_zr_0 t5 t24 t25 t26 c23_0 c23_1 c23_2 c23_3 c23_4 c23_5 c23_6 c23_7 c23_8 c23_9 l50 l51) K) = w_zr_0 F  (fun t5 t24 t25 t26 c23_0 c23_1 c23_2 c23_3 c23_4 c23_5 c23_6 c23_7 c23_8 c23_9 l50 l51 => K .ret (st_zr_0 t5 t24 t25 t26 c23_0 c23_1 c23_2 c23_3 c23_4 c23_5 c23_6 c23_7 c23_8 c23_9 l50 l51)) (fun t5 t24 t25 t26 c23_0 c23_1 c23_2 c23_3 c23_4 c23_5 c23_6 c23_7 c23_8 c23_9 l50 l51 => K (.exit 0) (st_zr_0 t5 t24 t25 t26 c23_0 c23_1 c23_2 c23_3 c23_4 c23_5 c23_6 c23_7 c23_8 c23_9 l50 l51)) n := by
   funext t5 t24 t25 t26 c23_0 c23_1 c23_2 c23_3 c23_4 c23_5 c23_6 c23_7 c23_8 c23_9 l50 l51
   exact ih (r + 1) t5 t24 t25 t26 c23_0 c23_1 c23_2 c23_3 c23_4 c23_5 c23_6 c23_7 c23_8 c23_9 l50 l51
  rw [step_zr_0, e]
  rfl
theorem nl_zr_0 (F : Nat) (Post : AVal UU → Prop) (t5 : Int) (t24 : List Opn) (t25 t26 : Int) (c23_0 c23_1 : ByteArray) (c23_2 c23_3 c23_4 c23_5 : Int) (c23_6 c23_7 : List Rect) (c23_8 c23_9 : Int) (l50 : List Rect) (l51 : List Seg) : b_zr_0 F F 0 (st_zr_0 t5 t24 t25 t26 c23_0 c23_1 c23_2 c23_3 c23_4 c23_5 c23_6 c23_7 c23_8 c23_9 l50 l51) (k_zr_0 F Post) = n_zr_0 F (fun r0_Lines r0_Stamps r1 => Post (.tup [.agg [.new .seg r0_Lines, .new .rect r0_Stamps], .int .i64 r1])) t5 t24 t25 t26 c23_0 c23_1 c23_2 c23_3 c23_4 c23_5 c23_6 c23_7 c23_8 c23_9 l50 l51 := by
 rw [loop_zr_0]
 have h0 : (fun t5 t24 t25 t26 c23_0 c23_1 c23_2 c23_3 c23_4 c23_5 c23_6 c23_7 c23_8 c23_9 l50 l51 => k_zr_0 F Post .ret (st_zr_0 t5 t24 t25 t26 c23_0 c23_1 c23_2 c23_3 c23_4 c23_5 c23_6 c23_7 c23_8 c23_9 l50 l51)) = (fun t5 t24 t25 t26 c23_0 c23_1 c23_2 c23_3 c23_4 c23_5 c23_6 c23_7 c23_8 c23_9 l50 l51 => g_zr_c0_0 (fun r0_Lines r0_Stamps r1 => Post (.tup [.agg [.new .seg r0_Lines, .new .rect r0_Stamps], .int .i64 r1])) t5 t24 t25 t26 c23_0 c23_1 c23_2 c23_3 c23_4 c23_5 c23_6 c23_7 c23_8 c23_9 l50 l51) := by
  funext t5 t24 t25 t26 c23_0 c23_1 c23_2 c23_3 c23_4 c23_5 c23_6 c23_7 c23_8 c23_9 l50 l51
  rw [cont_zr_0_0]
 have h1 : (fun t5 t24 t25 t26 c23_0 c23_1 c23_2 c23_3 c23_4 c23_5 c23_6 c23_7 c23_8 c23_9 l50 l51 => k_zr_0 F Post (.exit 0) (st_zr_0 t5 t24 t25 t26 c23_0 c23_1 c23_2 c23_3 c23_4 c23_5 c23_6 c23_7 c23_8 c23_9 l50 l51)) = (fun t5 t24 t25 t26 c23_0 c23_1 c23_2 c23_3 c23_4 c23_5 c23_6 c23_7 c23_8 c23_9 l50 l51 => g_zr_c0_1 (fun r0_Lines r0_Stamps r1 => Post (.tup [.agg [.new .seg r0_Lines, .new .rect r0_Stamps], .int .i64 r1])) t5 t24 t25 t26 c23_0 c23_1 c23_2 c23_3 c23_4 c23_5 c23_6 c23_7 c23_8 c23_9 l50 l51) := by
  funext t5 t24 t25 t26 c23_0 c23_1 c23_2 c23_3 c23_4 c23_5 c23_6 c23_7 c23_8 c23_9 l50 l51
  rw [cont_zr_0_1]
 rw [h0, h1]
 rfl
theorem exec_zr (F : Nat) (Post : AVal UU → Prop) (qe qf : ByteArray) (qg qh qa qb : Int) (qc qd : List Rect) (a1 : List Opn) : exec (inl1 C_zq) Tryz.f9.ntmps M_zr F 0 (bo Tryz.f9) (initSt [.agg [.str qe, .str qf, .int .i64 qg, .int .i64 qh, .int .i64 qa, .int .i64 qb, .sl .rect qc, .sl .rect qd], .sl .op a1]) (AEnds (inl1 C_zq) true Tryz.f9 Post) = w_zr F qe qf qg qh qa qb qc qd a1 (fun r0_Lines r0_Stamps r1 => Post (.tup [.agg [.new .seg r0_Lines, .new .rect r0_Stamps], .int .i64 r1])) := by
 rw [entry_zr]
 have e0 : (fun t5 t24 t25 t26 c23_0 c23_1 c23_2 c23_3 c23_4 c23_5 c23_6 c23_7 c23_8 c23_9 l50 l51 => b_zr_0 F F 0 (st_zr_0 t5 t24 t25 t26 c23_0 c23_1 c23_2 c23_3 c23_4 c23_5 c23_6 c23_7 c23_8 c23_9 l50 l51) (k_zr_0 F Post)) = (n_zr_0 F (fun r0_Lines r0_Stamps r1 => Post (.tup [.agg [.new .seg r0_Lines, .new .rect r0_Stamps], .int .i64 r1]))) := by
  funext t5 t24 t25 t26 c23_0 c23_1 c23_2 c23_3 c23_4 c23_5 c23_6 c23_7 c23_8 c23_9 l50 l51
  exact nl_zr_0 F Post t5 t24 t25 t26 c23_0 c23_1 c23_2 c23_3 c23_4 c23_5 c23_6 c23_7 c23_8 c23_9 l50 l51
 rw [e0]
 rfl
def m_zr : Model UU
 | [.agg [.str qe, .str qf, .int .i64 qg, .int .i64 qh, .int .i64 qa, .int .i64 qb, .sl .rect qc, .sl .rect qd], .sl .op a1] => some ([pre_zr qe qf qg qh qa qb qc qd a1], .tup [.agg [.new .seg ((sp_zr qe qf qg qh qa qb qc qd a1).1), .new .rect ((sp_zr qe qf qg qh qa qb qc qd a1).2.1)], .int .i64 ((sp_zr qe qf qg qh qa qb qc qd a1).2.2)])
 | _ => none
def C_zr : Cfg UU := C_zq.add 9 m_zr
theorem s_zr : SumOK C_zr := by
 refine addI rfl s_zq mixed (fn := Tryz.f9) (c := bo Tryz.f9) Tryz.func9 (by kernel_rfl) (by kernel_rfl) ?_
 intro xs cs r h hc
 unfold m_zr at h
 split at h
 ·rename_i qe qf qg qh qa qb qc qd a1
  cases h
  obtain ⟨F, hF⟩ := ok_zr qe qf qg qh qa qb qc qd a1 hc
  refine ⟨by kernel_rfl, M_zr, F, true, ⟨?_⟩⟩
  rw [exec_zr]
  refine hF _ ?_
  rfl
 ·cases h
set_option maxRecDepth 100000
theorem entry_zt (F : Nat) (Post : AVal UU → Prop) (qi a0_X a0_Y a0_W a0_H a0_N a1_X a1_Y : Int) : exec C_zr Tryz.f113.ntmps M_zt F 0 (bo Tryz.f113) (initSt [.agg [.int .i64 qi, .int .i64 a0_X, .int .i64 a0_Y, .int .i64 a0_W, .int .i64 a0_H, .int .i64 a0_N], .agg [.int .i64 a1_X, .int .i64 a1_Y]]) (AEnds C_zr false Tryz.f113 Post) = g_zt_e qi a0_X a0_Y a0_W a0_H a0_N a1_X a1_Y (fun r0 => Post (.sl .int r0)) := by kernel_rfl
theorem exec_zt (F : Nat) (Post : AVal UU → Prop) (qi a0_X a0_Y a0_W a0_H a0_N a1_X a1_Y : Int) : exec C_zr Tryz.f113.ntmps M_zt F 0 (bo Tryz.f113) (initSt [.agg [.int .i64 qi, .int .i64 a0_X, .int .i64 a0_Y, .int .i64 a0_W, .int .i64 a0_H, .int .i64 a0_N], .agg [.int .i64 a1_X, .int .i64 a1_Y]]) (AEnds C_zr false Tryz.f113 Post) = w_zt F qi a0_X a0_Y a0_W a0_H a0_N a1_X a1_Y (fun r0 => Post (.sl .int r0)) := by
 rw [entry_zt]
 rfl
def m_zt : Model UU
 | [.agg [.int .i64 qi, .int .i64 a0_X, .int .i64 a0_Y, .int .i64 a0_W, .int .i64 a0_H, .int .i64 a0_N], .agg [.int .i64 a1_X, .int .i64 a1_Y]] => some ([pre_zt qi a0_X a0_Y a0_W a0_H a0_N a1_X a1_Y], .sl .int (sp_zt qi a0_X a0_Y a0_W a0_H a0_N a1_X a1_Y))
 | _ => none
def C_zt : Cfg UU := C_zr.add 113 m_zt
theorem s_zt : SumOK C_zt := by
 refine s_zr.addD mixed (fn := Tryz.f113) (c := bo Tryz.f113) Tryz.func113 (by kernel_rfl) (by kernel_rfl) ?_
 intro xs cs r h hc
 unfold m_zt at h
 split at h
 ·rename_i qi a0_X a0_Y a0_W a0_H a0_N a1_X a1_Y
  cases h
  obtain ⟨F, hF⟩ := ok_zt qi a0_X a0_Y a0_W a0_H a0_N a1_X a1_Y hc
  refine ⟨by kernel_rfl, M_zt, F, false, ⟨?_⟩⟩
  rw [exec_zt]
  refine hF _ ?_
  rfl
 ·cases h
set_option maxRecDepth 100000
def b_fo2_0 (F n r : Nat) (S : ASt UU) (K : AEx → ASt UU → Prop) : Prop := iter (execG (inliner M_fo2 F 0 C_zt) C_zt Tryz.f20.ntmps M_fo2 F 0 (cL (cB (cS (cF (cS (cS (cS (cS (cS (cS (bo Tryz.f20)))))))))))) (M_fo2 0 0) n r S K
def b_fo2_1 (F n r : Nat) (S : ASt UU) (K : AEx → ASt UU → Prop) : Prop := iter (execG (inliner M_fo2 F 0 C_zt) C_zt Tryz.f20.ntmps M_fo2 F 2 (cL (cB (cS (cF (cS (cS (cS (cS (cB (cF (cS (cS (cL (cB (cS (cF (cS (cS (cS (cS (cS (cS (bo Tryz.f20)))))))))))))))))))))))) (M_fo2 0 2) n r S K
def k_fo2_0 (F : Nat) (Post : AVal UU → Prop) : AEx → ASt UU → Prop := kBlock 0 (kSeq (inliner M_fo2 F 0 C_zt) C_zt Tryz.f20.ntmps M_fo2 F 0 (cS (cS (cS (cS (cS (cS (cS (bo Tryz.f20)))))))) (AEnds C_zt false Tryz.f20 Post))
def k_fo2_1 (F n r : Nat) (K : AEx → ASt UU → Prop) : AEx → ASt UU → Prop := kBlock 2 (kSeq (inliner M_fo2 F 0 C_zt) C_zt Tryz.f20.ntmps M_fo2 F 1 (cS (cS (cS (cS (cS (cB (cF (cS (cS (cL (cB (cS (cF (cS (cS (cS (cS (cS (cS (bo Tryz.f20)))))))))))))))))))) (kBlock 1 (kSeq (inliner M_fo2 F 0 C_zt) C_zt Tryz.f20.ntmps M_fo2 F 0 (cS (cS (cS (cL (cB (cS (cF (cS (cS (cS (cS (cS (cS (bo Tryz.f20)))))))))))))) (kIter (execG (inliner M_fo2 F 0 C_zt) C_zt Tryz.f20.ntmps M_fo2 F 0 (cL (cB (cS (cF (cS (cS (cS (cS (cS (cS (bo Tryz.f20)))))))))))) (M_fo2 0 0) n r K))))
theorem step_fo2_0 (F n r : Nat) (K : AEx → ASt UU → Prop) (t4 : ByteArray) (t5 : Int) (t28 : List Opn) (t29 t30 : Int) (o8 : ByteArray) (c9_0 c9_1 : Int) : b_fo2_0 F (n + 1) r (st_fo2_0 t4 t5 t28 t29 t30 o8 c9_0 c9_1) K = g_fo2_s0 (fun t4 t5 t28 t29 t30 o8 c9_0 c9_1 => b_fo2_0 F n (r + 1) (st_fo2_0 t4 t5 t28 t29 t30 o8 c9_0 c9_1) K) (fun t4 t5 t28 t29 t30 o8 c9_0 c9_1 => K .ret (st_fo2_0 t4 t5 t28 t29 t30 o8 c9_0 c9_1)) (fun t4 t5 t28 t29 t30 o8 c9_0 c9_1 => K (.exit 0) (st_fo2_0 t4 t5 t28 t29 t30 o8 c9_0 c9_1)) t4 t5 t28 t29 t30 o8 c9_0 c9_1 (fun t4 t5 t28 t29 t30 t60 t61 t62 o8 c9_0 c9_1 c11_0 c11_1 c11_2 c11_3 c11_4 c11_5 => b_fo2_1 F F 0 (st_fo2_1 t4 t5 t28 t29 t30 t60 t61 t62 o8 c9_0 c9_1 c11_0 c11_1 c11_2 c11_3 c11_4 c11_5) (k_fo2_1 F n r K)) := by kernel_rfl
theorem cont_fo2_0_0 (F : Nat) (Post : AVal UU → Prop) (t4 : ByteArray) (t5 : Int) (t28 : List Opn) (t29 t30 : Int) (o8 : ByteArray) (c9_0 c9_1 : Int) : k_fo2_0 F Post .ret (st_fo2_0 t4 t5 t28 t29 t30 o8 c9_0 c9_1) = g_fo2_c0_0 (fun r0 r1 => Post (.tup [.str r0, .int .i64 r1])) t4 t5 t28 t29 t30 o8 c9_0 c9_1 := by kernel_rfl
theorem cont_fo2_0_1 (F : Nat) (Post : AVal UU → Prop) (t4 : ByteArray) (t5 : Int) (t28 : List Opn) (t29 t30 : Int) (o8 : ByteArray) (c9_0 c9_1 : Int) : k_fo2_0 F Post (.exit 0) (st_fo2_0 t4 t5 t28 t29 t30 o8 c9_0 c9_1) = g_fo2_c0_1 (fun r0 r1 => Post (.tup [.str r0, .int .i64 r1])) t4 t5 t28 t29 t30 o8 c9_0 c9_1 := by kernel_rfl
theorem step_fo2_1 (F n r : Nat) (K : AEx → ASt UU → Prop) (t4 : ByteArray) (t5 : Int) (t28 : List Opn) (t29 t30 : Int) (t60 : zzI) (t61 t62 : Int) (o8 : ByteArray) (c9_0 c9_1 c11_0 c11_1 c11_2 c11_3 c11_4 c11_5 : Int) : b_fo2_1 F (n + 1) r (st_fo2_1 t4 t5 t28 t29 t30 t60 t61 t62 o8 c9_0 c9_1 c11_0 c11_1 c11_2 c11_3 c11_4 c11_5) K = g_fo2_s1 (fun t4 t5 t28 t29 t30 t60 t61 t62 o8 c9_0 c9_1 c11_0 c11_1 c11_2 c11_3 c11_4 c11_5 => b_fo2_1 F n (r + 1) (st_fo2_1 t4 t5 t28 t29 t30 t60 t61 t62 o8 c9_0 c9_1 c11_0 c11_1 c11_2 c11_3 c11_4 c11_5) K) (fun t4 t5 t28 t29 t30 t60 t61 t62 o8 c9_0 c9_1 c11_0 c11_1 c11_2 c11_3 c11_4 c11_5 => K (.exit 2) (st_fo2_1 t4 t5 t28 t29 t30 t60 t61 t62 o8 c9_0 c9_1 c11_0 c11_1 c11_2 c11_3 c11_4 c11_5)) t4 t5 t28 t29 t30 t60 t61 t62 o8 c9_0 c9_1 c11_0 c11_1 c11_2 c11_3 c11_4 c11_5 := by kernel_rfl
theorem cont_fo2_1_0 (F n r : Nat) (K : AEx → ASt UU → Prop) (t4 : ByteArray) (t5 : Int) (t28 : List Opn) (t29 t30 : Int) (t60 : zzI) (t61 t62 : Int) (o8 : ByteArray) (c9_0 c9_1 c11_0 c11_1 c11_2 c11_3 c11_4 c11_5 : Int) : k_fo2_1 F n r K (.exit 2) (st_fo2_1 t4 t5 t28 t29 t30 t60 t61 t62 o8 c9_0 c9_1 c11_0 c11_1 c11_2 c11_3 c11_4 c11_5) = g_fo2_c1_0 (fun t4 t5 t28 t29 t30 o8 c9_0 c9_1 => b_fo2_0 F n (r + 1) (st_fo2_0 t4 t5 t28 t29 t30 o8 c9_0 c9_1) K) (fun t4 t5 t28 t29 t30 o8 c9_0 c9_1 => K .ret (st_fo2_0 t4 t5 t28 t29 t30 o8 c9_0 c9_1)) (fun t4 t5 t28 t29 t30 o8 c9_0 c9_1 => K (.exit 0) (st_fo2_0 t4 t5 t28 t29 t30 o8 c9_0 c9_1)) t4 t5 t28 t29 t30 t60 t61 t62 o8 c9_0 c9_1 c11_0 c11_1 c11_2 c11_3 c11_4 c11_5 := by kernel_rfl
theorem entry_fo2 (F : Nat) (Post : AVal UU → Prop) (ops : List Opn) : exec C_zt Tryz.f20.ntmps M_fo2 F 0 (bo Tryz.f20) (initSt [.int .i64 2, .sl .op ops]) (AEnds C_zt false Tryz.f20 Post) = g_fo2_e ops (fun r0 r1 => Post (.tup [.str r0, .int .i64 r1])) (fun t4 t5 t28 t29 t30 o8 c9_0 c9_1 => b_fo2_0 F F 0 (st_fo2_0 t4 t5 t28 t29 t30 o8 c9_0 c9_1) (k_fo2_0 F Post)) := by kernel_rfl
theorem loop_fo2_1 (F : Nat) (K : AEx → ASt UU → Prop) : ∀ (n r : Nat) (t4 : ByteArray) (t5 : Int) (t28 : List Opn) (t29 t30 : Int) (t60 : zzI) (t61 t62 : Int) (o8 : ByteArray) (c9_0 c9_1 c11_0 c11_1 c11_2 c11_3 c11_4 c11_5 : Int), b_fo2_1 F n r (st_fo2_1 t4 t5 t28 t29 t30 t60 t61 t62 o8 c9_0 c9_1 c11_0 c11_1 c11_2 c11_3 c11_4 c11_5) K = w_fo2_1 F  (fun t4 t5 t28 t29 t30 t60 t61 t62 o8 c9_0 c9_1 c11_0 c11_1 c11_2 c11_3 c11_4 c11_5 => K (.exit 2) (st_fo2_1 t4 t5 t28 t29 t30 t60 t61 t62 o8 c9_0 c9_1 c11_0 c11_1 c11_2 c11_3 c11_4 c11_5)) n t4 t5 t28 t29 t30 t60 t61 t62 o8 c9_0 c9_1 c11_0 c11_1 c11_2 c11_3 c11_4 c11_5 := by
 intro n
 induction n with
 | zero => intros; rfl
 | succ n ih =>
  intro r t4 t5 t28 t29 t30 t60 t61 t62 o8 c9_0 c9_1 c11_0 c11_1 c11_2 c11_3 c11_4 c11_5
  have e : (fun t4 t5 t28 t29 t30 t60 t61 t62 o8 c9_0 c9_1 c11_0 c11_1 c11_2 c11_3 c11_4 c11_5 => b_fo2_1 F n (r + 1) (st_fo2_1 t4 t5 t28 t29 t30 t60 t61 t62 o8 c9_0 c9_1 c11_0 c11_1 c11_2 c11_3 c11_4 c11_5) K) = w_fo2_1 F  (fun t4 t5 t28 t29 t30 t60 t61 t62 o8 c9_0 c9_1 c11_0 c11_1 c11_2 c11_3 c11_4 c11_5 => K (.exit 2) (st_fo2_1 t4 t5 t28 t29 t30 t60 t61 t62 o8 c9_0 c9_1 c11_0 c11_1 c11_2 c11_3 c11_4 c11_5)) n := by
   funext t4 t5 t28 t29 t30 t60 t61 t62 o8 c9_0 c9_1 c11_0 c11_1 c11_2 c11_3 c11_4 c11_5
   exact ih (r + 1) t4 t5 t28 t29 t30 t60 t61 t62 o8 c9_0 c9_1 c11_0 c11_1 c11_2 c11_3 c11_4 c11_5
  rw [step_fo2_1, e]
  rfl
theorem nl_fo2_1 (F n r : Nat) (K : AEx → ASt UU → Prop) (t4 : ByteArray) (t5 : Int) (t28 : List Opn) (t29 t30 : Int) (t60 : zzI) (t61 t62 : Int) (o8 : ByteArray) (c9_0 c9_1 c11_0 c11_1 c11_2 c11_3 c11_4 c11_5 : Int) : b_fo2_1 F F 0 (st_fo2_1 t4 t5 t28 t29 t30 t60 t61 t62 o8 c9_0 c9_1 c11_0 c11_1 c11_2 c11_3 c11_4 c11_5) (k_fo2_1 F n r K) = n_fo2_1 F (fun t4 t5 t28 t29 t30 o8 c9_0 c9_1 => b_fo2_0 F n (r + 1) (st_fo2_0 t4 t5 t28 t29 t30 o8 c9_0 c9_1) K) (fun t4 t5 t28 t29 t30 o8 c9_0 c9_1 => K .ret (st_fo2_0 t4 t5 t28 t29 t30 o8 c9_0 c9_1)) (fun t4 t5 t28 t29 t30 o8 c9_0 c9_1 => K (.exit 0) (st_fo2_0 t4 t5 t28 t29 t30 o8 c9_0 c9_1)) t4 t5 t28 t29 t30 t60 t61 t62 o8 c9_0 c9_1 c11_0 c11_1 c11_2 c11_3 c11_4 c11_5 := by
 rw [loop_fo2_1]
 have h0 : (fun t4 t5 t28 t29 t30 t60 t61 t62 o8 c9_0 c9_1 c11_0 c11_1 c11_2 c11_3 c11_4 c11_5 => k_fo2_1 F n r K (.exit 2) (st_fo2_1 t4 t5 t28 t29 t30 t60 t61 t62 o8 c9_0 c9_1 c11_0 c11_1 c11_2 c11_3 c11_4 c11_5)) = (fun t4 t5 t28 t29 t30 t60 t61 t62 o8 c9_0 c9_1 c11_0 c11_1 c11_2 c11_3 c11_4 c11_5 => g_fo2_c1_0 (fun t4 t5 t28 t29 t30 o8 c9_0 c9_1 => b_fo2_0 F n (r + 1) (st_fo2_0 t4 t5 t28 t29 t30 o8 c9_0 c9_1) K) (fun t4 t5 t28 t29 t30 o8 c9_0 c9_1 => K .ret (st_fo2_0 t4 t5 t28 t29 t30 o8 c9_0 c9_1)) (fun t4 t5 t28 t29 t30 o8 c9_0 c9_1 => K (.exit 0) (st_fo2_0 t4 t5 t28 t29 t30 o8 c9_0 c9_1)) t4 t5 t28 t29 t30 t60 t61 t62 o8 c9_0 c9_1 c11_0 c11_1 c11_2 c11_3 c11_4 c11_5) := by
  funext t4 t5 t28 t29 t30 t60 t61 t62 o8 c9_0 c9_1 c11_0 c11_1 c11_2 c11_3 c11_4 c11_5
  rw [cont_fo2_1_0]
 rw [h0]
 rfl
theorem loop_fo2_0 (F : Nat) (K : AEx → ASt UU → Prop) : ∀ (n r : Nat) (t4 : ByteArray) (t5 : Int) (t28 : List Opn) (t29 t30 : Int) (o8 : ByteArray) (c9_0 c9_1 : Int), b_fo2_0 F n r (st_fo2_0 t4 t5 t28 t29 t30 o8 c9_0 c9_1) K = w_fo2_0 F  (fun t4 t5 t28 t29 t30 o8 c9_0 c9_1 => K .ret (st_fo2_0 t4 t5 t28 t29 t30 o8 c9_0 c9_1)) (fun t4 t5 t28 t29 t30 o8 c9_0 c9_1 => K (.exit 0) (st_fo2_0 t4 t5 t28 t29 t30 o8 c9_0 c9_1)) n t4 t5 t28 t29 t30 o8 c9_0 c9_1 := by
 intro n
 induction n with
 | zero => intros; rfl
 | succ n ih =>
  intro r t4 t5 t28 t29 t30 o8 c9_0 c9_1
  have e : (fun t4 t5 t28 t29 t30 o8 c9_0 c9_1 => b_fo2_0 F n (r + 1) (st_fo2_0 t4 t5 t28 t29 t30 o8 c9_0 c9_1) K) = w_fo2_0 F  (fun t4 t5 t28 t29 t30 o8 c9_0 c9_1 => K .ret (st_fo2_0 t4 t5 t28 t29 t30 o8 c9_0 c9_1)) (fun t4 t5 t28 t29 t30 o8 c9_0 c9_1 => K (.exit 0) (st_fo2_0 t4 t5 t28 t29 t30 o8 c9_0 c9_1)) n := by
   funext t4 t5 t28 t29 t30 o8 c9_0 c9_1
   exact ih (r + 1) t4 t5 t28 t29 t30 o8 c9_0 c9_1
  have e1 : (fun t4 t5 t28 t29 t30 t60 t61 t62 o8 c9_0 c9_1 c11_0 c11_1 c11_2 c11_3 c11_4 c11_5 => b_fo2_1 F F 0 (st_fo2_1 t4 t5 t28 t29 t30 t60 t61 t62 o8 c9_0 c9_1 c11_0 c11_1 c11_2 c11_3 c11_4 c11_5) (k_fo2_1 F n r K)) = (n_fo2_1 F (fun t4 t5 t28 t29 t30 o8 c9_0 c9_1 => b_fo2_0 F n (r + 1) (st_fo2_0 t4 t5 t28 t29 t30 o8 c9_0 c9_1) K) (fun t4 t5 t28 t29 t30 o8 c9_0 c9_1 => K .ret (st_fo2_0 t4 t5 t28 t29 t30 o8 c9_0 c9_1)) (fun t4 t5 t28 t29 t30 o8 c9_0 c9_1 => K (.exit 0) (st_fo2_0 t4 t5 t28 t29 t30 o8 c9_0 c9_1))) := by
   funext t4 t5 t28 t29 t30 t60 t61 t62 o8 c9_0 c9_1 c11_0 c11_1 c11_2 c11_3 c11_4 c11_5
   exact nl_fo2_1 F n r K t4 t5 t28 t29 t30 t60 t61 t62 o8 c9_0 c9_1 c11_0 c11_1 c11_2 c11_3 c11_4 c11_5
  rw [step_fo2_0, e1, e]
  rfl
theorem nl_fo2_0 (F : Nat) (Post : AVal UU → Prop) (t4 : ByteArray) (t5 : Int) (t28 : List Opn) (t29 t30 : Int) (o8 : ByteArray) (c9_0 c9_1 : Int) : b_fo2_0 F F 0 (st_fo2_0 t4 t5 t28 t29 t30 o8 c9_0 c9_1) (k_fo2_0 F Post) = n_fo2_0 F (fun r0 r1 => Post (.tup [.str r0, .int .i64 r1])) t4 t5 t28 t29 t30 o8 c9_0 c9_1 := by
 rw [loop_fo2_0]
 have h0 : (fun t4 t5 t28 t29 t30 o8 c9_0 c9_1 => k_fo2_0 F Post .ret (st_fo2_0 t4 t5 t28 t29 t30 o8 c9_0 c9_1)) = (fun t4 t5 t28 t29 t30 o8 c9_0 c9_1 => g_fo2_c0_0 (fun r0 r1 => Post (.tup [.str r0, .int .i64 r1])) t4 t5 t28 t29 t30 o8 c9_0 c9_1) := by
  funext t4 t5 t28 t29 t30 o8 c9_0 c9_1
  rw [cont_fo2_0_0]
 have h1 : (fun t4 t5 t28 t29 t30 o8 c9_0 c9_1 => k_fo2_0 F Post (.exit 0) (st_fo2_0 t4 t5 t28 t29 t30 o8 c9_0 c9_1)) = (fun t4 t5 t28 t29 t30 o8 c9_0 c9_1 => g_fo2_c0_1 (fun r0 r1 => Post (.tup [.str r0, .int .i64 r1])) t4 t5 t28 t29 t30 o8 c9_0 c9_1) := by
  funext t4 t5 t28 t29 t30 o8 c9_0 c9_1
  rw [cont_fo2_0_1]
 rw [h0, h1]
 rfl
theorem exec_fo2 (F : Nat) (Post : AVal UU → Prop) (ops : List Opn) : exec C_zt Tryz.f20.ntmps M_fo2 F 0 (bo Tryz.f20) (initSt [.int .i64 2, .sl .op ops]) (AEnds C_zt false Tryz.f20 Post) = w_fo2 F ops (fun r0 r1 => Post (.tup [.str r0, .int .i64 r1])) := by
 rw [entry_fo2]
 have e0 : (fun t4 t5 t28 t29 t30 o8 c9_0 c9_1 => b_fo2_0 F F 0 (st_fo2_0 t4 t5 t28 t29 t30 o8 c9_0 c9_1) (k_fo2_0 F Post)) = (n_fo2_0 F (fun r0 r1 => Post (.tup [.str r0, .int .i64 r1]))) := by
  funext t4 t5 t28 t29 t30 o8 c9_0 c9_1
  exact nl_fo2_0 F Post t4 t5 t28 t29 t30 o8 c9_0 c9_1
 rw [e0]
 rfl
def m_fo2 : Model UU
 | [.int .i64 2, .sl .op ops] => some ([pre_fo2 ops], .tup [.str ((sp_fo2 ops).1), .int .i64 ((sp_fo2 ops).2)])
 | _ => none
def C_fo2 : Cfg UU := C_zt.add 20 m_fo2
theorem s_fo2 : SumOK C_fo2 := by
 refine s_zt.addD mixed (fn := Tryz.f20) (c := bo Tryz.f20) Tryz.func20 (by kernel_rfl) (by kernel_rfl) ?_
 intro xs cs r h hc
 unfold m_fo2 at h
 split at h
 ·rename_i ops
  cases h
  obtain ⟨F, hF⟩ := ok_fo2 ops hc
  refine ⟨by kernel_rfl, M_fo2, F, false, ⟨?_⟩⟩
  rw [exec_fo2]
  refine hF _ ?_
  rfl
 ·cases h
set_option maxRecDepth 100000
theorem entry_zah (F : Nat) (Post : AVal UU → Prop)  : exec C_fo2 Tryz.f13.ntmps M_zah F 0 (bo Tryz.f13) (initSt []) (AEnds C_fo2 false Tryz.f13 Post) = g_zah_e  (fun r0 => Post (.bool r0)) := by kernel_rfl
theorem exec_zah (F : Nat) (Post : AVal UU → Prop)  : exec C_fo2 Tryz.f13.ntmps M_zah F 0 (bo Tryz.f13) (initSt []) (AEnds C_fo2 false Tryz.f13 Post) = w_zah F  (fun r0 => Post (.bool r0)) := by
 rw [entry_zah]
 rfl
def m_zah : Model UU
 | [] => some ([], .bool sp_zah)
 | _ => none
def C_zah : Cfg UU := C_fo2.add 13 m_zah
theorem s_zah : SumOK C_zah := by
 refine s_fo2.addD mixed (fn := Tryz.f13) (c := bo Tryz.f13) Tryz.func13 (by kernel_rfl) (by kernel_rfl) ?_
 intro xs cs r h hc
 unfold m_zah at h
 split at h
 ·cases h
  obtain ⟨F, hF⟩ := ok_zah 
  refine ⟨by kernel_rfl, M_zah, F, false, ⟨?_⟩⟩
  rw [exec_zah]
  refine hF _ ?_
  rfl
 ·cases h
set_option maxRecDepth 100000
theorem entry_zd (F : Nat) (Post : AVal UU → Prop) (qe qf : ByteArray) (qg qh qa qb : Int) (qc qd : List Rect) (ql qk qq qo : Int) : exec C_zah Tryz.f68.ntmps M_zd F 0 (bo Tryz.f68) (initSt [.agg [.str qe, .str qf, .int .i64 qg, .int .i64 qh, .int .i64 qa, .int .i64 qb, .sl .rect qc, .sl .rect qd], .agg [.int .i64 ql, .int .i64 qk, .int .i64 qq, .int .i64 qo]]) (AEnds C_zah false Tryz.f68 Post) = g_zd_e qe qf qg qh qa qb qc qd ql qk qq qo (fun r0 => Post (.bool r0)) := by kernel_rfl
theorem exec_zd (F : Nat) (Post : AVal UU → Prop) (qe qf : ByteArray) (qg qh qa qb : Int) (qc qd : List Rect) (ql qk qq qo : Int) : exec C_zah Tryz.f68.ntmps M_zd F 0 (bo Tryz.f68) (initSt [.agg [.str qe, .str qf, .int .i64 qg, .int .i64 qh, .int .i64 qa, .int .i64 qb, .sl .rect qc, .sl .rect qd], .agg [.int .i64 ql, .int .i64 qk, .int .i64 qq, .int .i64 qo]]) (AEnds C_zah false Tryz.f68 Post) = w_zd F qe qf qg qh qa qb qc qd ql qk qq qo (fun r0 => Post (.bool r0)) := by
 rw [entry_zd]
 rfl
def m_zd : Model UU
 | [.agg [.str qe, .str qf, .int .i64 qg, .int .i64 qh, .int .i64 qa, .int .i64 qb, .sl .rect qc, .sl .rect qd], .agg [.int .i64 ql, .int .i64 qk, .int .i64 qq, .int .i64 qo]] => some ([], .bool (sp_zd qe qf qg qh qa qb qc qd ql qk qq qo))
 | _ => none
def C_zd : Cfg UU := C_zah.add 68 m_zd
theorem s_zd : SumOK C_zd := by
 refine s_zah.addD mixed (fn := Tryz.f68) (c := bo Tryz.f68) Tryz.func68 (by kernel_rfl) (by kernel_rfl) ?_
 intro xs cs r h hc
 unfold m_zd at h
 split at h
 ·rename_i qe qf qg qh qa qb qc qd ql qk qq qo
  cases h
  obtain ⟨F, hF⟩ := ok_zd qe qf qg qh qa qb qc qd ql qk qq qo
  refine ⟨by kernel_rfl, M_zd, F, false, ⟨?_⟩⟩
  rw [exec_zd]
  refine hF _ ?_
  rfl
 ·cases h
theorem entry_zaq (F : Nat) (Post : AVal UU → Prop) (qe qf : ByteArray) (qg qh qa qb : Int) (qc qd : List Rect) (a1 a2 : Int) : exec C_zd Tryz.f36.ntmps M_zaq F 0 (bo Tryz.f36) (initSt [.agg [.str qe, .str qf, .int .i64 qg, .int .i64 qh, .int .i64 qa, .int .i64 qb, .sl .rect qc, .sl .rect qd], .int .i64 a1, .int .i64 a2]) (AEnds C_zd false Tryz.f36 Post) = g_zaq_e qe qf qg qh qa qb qc qd a1 a2 (fun r0 => Post (.bool r0)) := by kernel_rfl
theorem exec_zaq (F : Nat) (Post : AVal UU → Prop) (qe qf : ByteArray) (qg qh qa qb : Int) (qc qd : List Rect) (a1 a2 : Int) : exec C_zd Tryz.f36.ntmps M_zaq F 0 (bo Tryz.f36) (initSt [.agg [.str qe, .str qf, .int .i64 qg, .int .i64 qh, .int .i64 qa, .int .i64 qb, .sl .rect qc, .sl .rect qd], .int .i64 a1, .int .i64 a2]) (AEnds C_zd false Tryz.f36 Post) = w_zaq F qe qf qg qh qa qb qc qd a1 a2 (fun r0 => Post (.bool r0)) := by
 rw [entry_zaq]
 rfl
def m_zaq : Model UU
 | [.agg [.str qe, .str qf, .int .i64 qg, .int .i64 qh, .int .i64 qa, .int .i64 qb, .sl .rect qc, .sl .rect qd], .int .i64 a1, .int .i64 a2] => some ([], .bool (sp_zaq qe qf qg qh qa qb qc qd a1 a2))
 | _ => none
def C_zaq : Cfg UU := C_zd.add 36 m_zaq
theorem s_zaq : SumOK C_zaq := by
 refine s_zd.addD mixed (fn := Tryz.f36) (c := bo Tryz.f36) Tryz.func36 (by kernel_rfl) (by kernel_rfl) ?_
 intro xs cs r h hc
 unfold m_zaq at h
 split at h
 ·rename_i qe qf qg qh qa qb qc qd a1 a2
  cases h
  obtain ⟨F, hF⟩ := ok_zaq qe qf qg qh qa qb qc qd a1 a2
  refine ⟨by kernel_rfl, M_zaq, F, false, ⟨?_⟩⟩
  rw [exec_zaq]
  refine hF _ ?_
  rfl
 ·cases h
theorem entry_zn (F : Nat) (Post : AVal UU → Prop) (a0 a1 : Int) : exec C_zaq Tryz.f206.ntmps M_zn F 0 (bo Tryz.f206) (initSt [.int .u64 a0, .int .u64 a1]) (AEnds C_zaq false Tryz.f206 Post) = g_zn_e a0 a1 (fun r0 r1 => Post (.tup [.int .u64 r0, .int .u64 r1])) := by kernel_rfl
theorem exec_zn (F : Nat) (Post : AVal UU → Prop) (a0 a1 : Int) : exec C_zaq Tryz.f206.ntmps M_zn F 0 (bo Tryz.f206) (initSt [.int .u64 a0, .int .u64 a1]) (AEnds C_zaq false Tryz.f206 Post) = w_zn F a0 a1 (fun r0 r1 => Post (.tup [.int .u64 r0, .int .u64 r1])) := by
 rw [entry_zn]
 rfl
def m_zn : Model UU
 | [.int .u64 a0, .int .u64 a1] => some ([pre_zn a0 a1], .tup [.int .u64 ((sp_zn a0 a1).1), .int .u64 ((sp_zn a0 a1).2)])
 | _ => none
def C_zn : Cfg UU := C_zaq.add 206 m_zn
theorem s_zn : SumOK C_zn := by
 refine s_zaq.addD mixed (fn := Tryz.f206) (c := bo Tryz.f206) Tryz.func206 (by kernel_rfl) (by kernel_rfl) ?_
 intro xs cs r h hc
 unfold m_zn at h
 split at h
 ·rename_i a0 a1
  cases h
  obtain ⟨F, hF⟩ := ok_zn a0 a1 hc
  refine ⟨by kernel_rfl, M_zn, F, false, ⟨?_⟩⟩
  rw [exec_zn]
  refine hF _ ?_
  rfl
 ·cases h
theorem entry_zu (F : Nat) (Post : AVal UU → Prop) (a0 a1 : Int) : exec C_zn Tryz.f166.ntmps M_zu F 0 (bo Tryz.f166) (initSt [.int .u64 a0, .int .u64 a1]) (AEnds C_zn false Tryz.f166 Post) = g_zu_e a0 a1 (fun r0 r1 => Post (.tup [.int .u64 r0, .int .u64 r1])) := by kernel_rfl
theorem exec_zu (F : Nat) (Post : AVal UU → Prop) (a0 a1 : Int) : exec C_zn Tryz.f166.ntmps M_zu F 0 (bo Tryz.f166) (initSt [.int .u64 a0, .int .u64 a1]) (AEnds C_zn false Tryz.f166 Post) = w_zu F a0 a1 (fun r0 r1 => Post (.tup [.int .u64 r0, .int .u64 r1])) := by
 rw [entry_zu]
 rfl
def m_zu : Model UU
 | [.int .u64 a0, .int .u64 a1] => some ([pre_zu a0 a1], .tup [.int .u64 ((sp_zu a0 a1).1), .int .u64 ((sp_zu a0 a1).2)])
 | _ => none
def C_zu : Cfg UU := C_zn.add 166 m_zu
theorem s_zu : SumOK C_zu := by
 refine s_zn.addD mixed (fn := Tryz.f166) (c := bo Tryz.f166) Tryz.func166 (by kernel_rfl) (by kernel_rfl) ?_
 intro xs cs r h hc
 unfold m_zu at h
 split at h
 ·rename_i a0 a1
  cases h
  obtain ⟨F, hF⟩ := ok_zu a0 a1 hc
  refine ⟨by kernel_rfl, M_zu, F, false, ⟨?_⟩⟩
  rw [exec_zu]
  refine hF _ ?_
  rfl
 ·cases h
theorem entry_zv (F : Nat) (Post : AVal UU → Prop) (a0 : Int) : exec C_zu Tryz.f184.ntmps M_zv F 0 (bo Tryz.f184) (initSt [.int .i64 a0]) (AEnds C_zu false Tryz.f184 Post) = g_zv_e a0 (fun r0 => Post (.bool r0)) := by kernel_rfl
theorem exec_zv (F : Nat) (Post : AVal UU → Prop) (a0 : Int) : exec C_zu Tryz.f184.ntmps M_zv F 0 (bo Tryz.f184) (initSt [.int .i64 a0]) (AEnds C_zu false Tryz.f184 Post) = w_zv F a0 (fun r0 => Post (.bool r0)) := by
 rw [entry_zv]
 rfl
def m_zv : Model UU
 | [.int .i64 a0] => some ([], .bool (sp_zv a0))
 | _ => none
def C_zv : Cfg UU := C_zu.add 184 m_zv
theorem s_zv : SumOK C_zv := by
 refine s_zu.addD mixed (fn := Tryz.f184) (c := bo Tryz.f184) Tryz.func184 (by kernel_rfl) (by kernel_rfl) ?_
 intro xs cs r h hc
 unfold m_zv at h
 split at h
 ·rename_i a0
  cases h
  obtain ⟨F, hF⟩ := ok_zv a0
  refine ⟨by kernel_rfl, M_zv, F, false, ⟨?_⟩⟩
  rw [exec_zv]
  refine hF _ ?_
  rfl
 ·cases h
theorem entry_zac (F : Nat) (Post : AVal UU → Prop) (a0 a1 : Int) : exec C_zv Tryz.f167.ntmps M_zac F 0 (bo Tryz.f167) (initSt [.int .i64 a0, .int .i64 a1]) (AEnds C_zv false Tryz.f167 Post) = g_zac_e a0 a1 (fun r0 => Post (.bool r0)) := by kernel_rfl
theorem exec_zac (F : Nat) (Post : AVal UU → Prop) (a0 a1 : Int) : exec C_zv Tryz.f167.ntmps M_zac F 0 (bo Tryz.f167) (initSt [.int .i64 a0, .int .i64 a1]) (AEnds C_zv false Tryz.f167 Post) = w_zac F a0 a1 (fun r0 => Post (.bool r0)) := by
 rw [entry_zac]
 rfl
def m_zac : Model UU
 | [.int .i64 a0, .int .i64 a1] => some ([], .bool (sp_zac a0 a1))
 | _ => none
def C_zac : Cfg UU := C_zv.add 167 m_zac
theorem s_zac : SumOK C_zac := by
 refine s_zv.addD mixed (fn := Tryz.f167) (c := bo Tryz.f167) Tryz.func167 (by kernel_rfl) (by kernel_rfl) ?_
 intro xs cs r h hc
 unfold m_zac at h
 split at h
 ·rename_i a0 a1
  cases h
  obtain ⟨F, hF⟩ := ok_zac a0 a1
  refine ⟨by kernel_rfl, M_zac, F, false, ⟨?_⟩⟩
  rw [exec_zac]
  refine hF _ ?_
  rfl
 ·cases h
theorem entry_zf (F : Nat) (Post : AVal UU → Prop) (a0 : Int) : exec C_zac Tryz.f168.ntmps M_zf F 0 (bo Tryz.f168) (initSt [.int .i64 a0]) (AEnds C_zac false Tryz.f168 Post) = g_zf_e a0 (fun r0 => Post (.bool r0)) := by kernel_rfl
theorem exec_zf (F : Nat) (Post : AVal UU → Prop) (a0 : Int) : exec C_zac Tryz.f168.ntmps M_zf F 0 (bo Tryz.f168) (initSt [.int .i64 a0]) (AEnds C_zac false Tryz.f168 Post) = w_zf F a0 (fun r0 => Post (.bool r0)) := by
 rw [entry_zf]
 rfl
def m_zf : Model UU
 | [.int .i64 a0] => some ([], .bool (sp_zf a0))
 | _ => none
def C_zf : Cfg UU := C_zac.add 168 m_zf
theorem s_zf : SumOK C_zf := by
 refine s_zac.addD mixed (fn := Tryz.f168) (c := bo Tryz.f168) Tryz.func168 (by kernel_rfl) (by kernel_rfl) ?_
 intro xs cs r h hc
 unfold m_zf at h
 split at h
 ·rename_i a0
  cases h
  obtain ⟨F, hF⟩ := ok_zf a0
  refine ⟨by kernel_rfl, M_zf, F, false, ⟨?_⟩⟩
  rw [exec_zf]
  refine hF _ ?_
  rfl
 ·cases h
theorem entry_zai (F : Nat) (Post : AVal UU → Prop) (a0 a1 : ByteArray) (a2 a3 : Int) : exec C_zf Tryz.f90.ntmps M_zai F 0 (bo Tryz.f90) (initSt [.str a0, .str a1, .int .i64 a2, .int .i64 a3]) (AEnds C_zf false Tryz.f90 Post) = g_zai_e a0 a1 a2 a3 (fun r0 => Post (.int .i64 r0)) := by kernel_rfl
theorem exec_zai (F : Nat) (Post : AVal UU → Prop) (a0 a1 : ByteArray) (a2 a3 : Int) : exec C_zf Tryz.f90.ntmps M_zai F 0 (bo Tryz.f90) (initSt [.str a0, .str a1, .int .i64 a2, .int .i64 a3]) (AEnds C_zf false Tryz.f90 Post) = w_zai F a0 a1 a2 a3 (fun r0 => Post (.int .i64 r0)) := by
 rw [entry_zai]
 rfl
def m_zai : Model UU
 | [.str a0, .str a1, .int .i64 a2, .int .i64 a3] => some ([], .int .i64 (sp_zai a0 a1 a2 a3))
 | _ => none
def C_zai : Cfg UU := C_zf.add 90 m_zai
theorem s_zai : SumOK C_zai := by
 refine s_zf.addD mixed (fn := Tryz.f90) (c := bo Tryz.f90) Tryz.func90 (by kernel_rfl) (by kernel_rfl) ?_
 intro xs cs r h hc
 unfold m_zai at h
 split at h
 ·rename_i a0 a1 a2 a3
  cases h
  obtain ⟨F, hF⟩ := ok_zai a0 a1 a2 a3
  refine ⟨by kernel_rfl, M_zai, F, false, ⟨?_⟩⟩
  rw [exec_zai]
  refine hF _ ?_
  rfl
 ·cases h
set_option maxRecDepth 100000
def b_zz_0 (F n r : Nat) (S : ASt UU) (K : AEx → ASt UU → Prop) : Prop := iter (execG (inliner M_zz F 0 C_zai) C_zai Tryz.f91.ntmps M_zz F 0 (cL (cB (cS (cF (cS (bo Tryz.f91))))))) (M_zz 0 0) n r S K
def k_zz_0 (F : Nat) (Post : AVal UU → Prop) : AEx → ASt UU → Prop := kBlock 0 (kSeq (inliner M_zz F 0 C_zai) C_zai Tryz.f91.ntmps M_zz F 0 (cS (cS (bo Tryz.f91))) (AEnds C_zai false Tryz.f91 Post))
theorem step_zz_0 (F n r : Nat) (K : AEx → ASt UU → Prop) (t0 : List Rect) (t2 : Bool) (t3 : Int) : b_zz_0 F (n + 1) r (st_zz_0 t0 t2 t3) K = g_zz_s0 (fun t0 t2 t3 => b_zz_0 F n (r + 1) (st_zz_0 t0 t2 t3) K) (fun t0 t2 t3 => K .ret (st_zz_0 t0 t2 t3)) (fun t0 t2 t3 => K (.exit 0) (st_zz_0 t0 t2 t3)) t0 t2 t3 := by kernel_rfl
theorem cont_zz_0_0 (F : Nat) (Post : AVal UU → Prop) (t0 : List Rect) (t2 : Bool) (t3 : Int) : k_zz_0 F Post .ret (st_zz_0 t0 t2 t3) = g_zz_c0_0 (fun r0 => Post (.bool r0)) t0 t2 t3 := by kernel_rfl
theorem cont_zz_0_1 (F : Nat) (Post : AVal UU → Prop) (t0 : List Rect) (t2 : Bool) (t3 : Int) : k_zz_0 F Post (.exit 0) (st_zz_0 t0 t2 t3) = g_zz_c0_1 (fun r0 => Post (.bool r0)) t0 t2 t3 := by kernel_rfl
theorem entry_zz (F : Nat) (Post : AVal UU → Prop) (a0 : List Rect) : exec C_zai Tryz.f91.ntmps M_zz F 0 (bo Tryz.f91) (initSt [.sl .rect a0]) (AEnds C_zai false Tryz.f91 Post) = g_zz_e a0 (fun r0 => Post (.bool r0)) (fun t0 t2 t3 => b_zz_0 F F 0 (st_zz_0 t0 t2 t3) (k_zz_0 F Post)) := by kernel_rfl
theorem loop_zz_0 (F : Nat) (K : AEx → ASt UU → Prop) : ∀ (n r : Nat) (t0 : List Rect) (t2 : Bool) (t3 : Int), b_zz_0 F n r (st_zz_0 t0 t2 t3) K = w_zz_0 F  (fun t0 t2 t3 => K .ret (st_zz_0 t0 t2 t3)) (fun t0 t2 t3 => K (.exit 0) (st_zz_0 t0 t2 t3)) n t0 t2 t3 := by
 intro n
 induction n with
 | zero => intros; rfl
 | succ n ih =>
  intro r t0 t2 t3
  have e : (fun t0 t2 t3 => b_zz_0 F n (r + 1) (st_zz_0 t0 t2 t3) K) = w_zz_0 F  (fun t0 t2 t3 => K .ret (st_zz_0 t0 t2 t3)) (fun t0 t2 t3 => K (.exit 0) (st_zz_0 t0 t2 t3)) n := by
   funext t0 t2 t3
   exact ih (r + 1) t0 t2 t3
  rw [step_zz_0, e]
  rfl
theorem nl_zz_0 (F : Nat) (Post : AVal UU → Prop) (t0 : List Rect) (t2 : Bool) (t3 : Int) : b_zz_0 F F 0 (st_zz_0 t0 t2 t3) (k_zz_0 F Post) = n_zz_0 F (fun r0 => Post (.bool r0)) t0 t2 t3 := by
 rw [loop_zz_0]
 have h0 : (fun t0 t2 t3 => k_zz_0 F Post .ret (st_zz_0 t0 t2 t3)) = (fun t0 t2 t3 => g_zz_c0_0 (fun r0 => Post (.bool r0)) t0 t2 t3) := by
  funext t0 t2 t3
  rw [cont_zz_0_0]
 have h1 : (fun t0 t2 t3 => k_zz_0 F Post (.exit 0) (st_zz_0 t0 t2 t3)) = (fun t0 t2 t3 => g_zz_c0_1 (fun r0 => Post (.bool r0)) t0 t2 t3) := by
  funext t0 t2 t3
  rw [cont_zz_0_1]
 rw [h0, h1]
 rfl
theorem exec_zz (F : Nat) (Post : AVal UU → Prop) (a0 : List Rect) : exec C_zai Tryz.f91.ntmps M_zz F 0 (bo Tryz.f91) (initSt [.sl .rect a0]) (AEnds C_zai false Tryz.f91 Post) = w_zz F a0 (fun r0 => Post (.bool r0)) := by
 rw [entry_zz]
 have e0 : (fun t0 t2 t3 => b_zz_0 F F 0 (st_zz_0 t0 t2 t3) (k_zz_0 F Post)) = (n_zz_0 F (fun r0 => Post (.bool r0))) := by
  funext t0 t2 t3
  exact nl_zz_0 F Post t0 t2 t3
 rw [e0]
 rfl
def m_zz : Model UU
 | [.sl .rect a0] => some ([pre_zz a0], .bool (sp_zz a0))
 | _ => none
def C_zz : Cfg UU := C_zai.add 91 m_zz
theorem s_zz : SumOK C_zz := by
 refine s_zai.addD mixed (fn := Tryz.f91) (c := bo Tryz.f91) Tryz.func91 (by kernel_rfl) (by kernel_rfl) ?_
 intro xs cs r h hc
 unfold m_zz at h
 split at h
 ·rename_i a0
  cases h
  obtain ⟨F, hF⟩ := ok_zz a0 hc
  refine ⟨by kernel_rfl, M_zz, F, false, ⟨?_⟩⟩
  rw [exec_zz]
  refine hF _ ?_
  rfl
 ·cases h
def b_zab_0 (F n r : Nat) (S : ASt UU) (K : AEx → ASt UU → Prop) : Prop := iter (execG (inliner M_zab F 0 C_zz) C_zz Tryz.f92.ntmps M_zab F 0 (cL (cB (cS (cF (cS (bo Tryz.f92))))))) (M_zab 0 0) n r S K
def k_zab_0 (F : Nat) (Post : AVal UU → Prop) : AEx → ASt UU → Prop := kBlock 0 (kSeq (inliner M_zab F 0 C_zz) C_zz Tryz.f92.ntmps M_zab F 0 (cS (cS (bo Tryz.f92))) (AEnds C_zz false Tryz.f92 Post))
theorem step_zab_0 (F n r : Nat) (K : AEx → ASt UU → Prop) (t1 : List Rect) (t4 : Bool) (t5 : Int) (c2_0 c2_1 : ByteArray) (c2_2 c2_3 c2_4 c2_5 : Int) (c2_6 c2_7 : List Rect) : b_zab_0 F (n + 1) r (st_zab_0 t1 t4 t5 c2_0 c2_1 c2_2 c2_3 c2_4 c2_5 c2_6 c2_7) K = g_zab_s0 (fun t1 t4 t5 c2_0 c2_1 c2_2 c2_3 c2_4 c2_5 c2_6 c2_7 => b_zab_0 F n (r + 1) (st_zab_0 t1 t4 t5 c2_0 c2_1 c2_2 c2_3 c2_4 c2_5 c2_6 c2_7) K) (fun t1 t4 t5 c2_0 c2_1 c2_2 c2_3 c2_4 c2_5 c2_6 c2_7 => K .ret (st_zab_0 t1 t4 t5 c2_0 c2_1 c2_2 c2_3 c2_4 c2_5 c2_6 c2_7)) (fun t1 t4 t5 c2_0 c2_1 c2_2 c2_3 c2_4 c2_5 c2_6 c2_7 => K (.exit 0) (st_zab_0 t1 t4 t5 c2_0 c2_1 c2_2 c2_3 c2_4 c2_5 c2_6 c2_7)) t1 t4 t5 c2_0 c2_1 c2_2 c2_3 c2_4 c2_5 c2_6 c2_7 := by kernel_rfl
theorem cont_zab_0_0 (F : Nat) (Post : AVal UU → Prop) (t1 : List Rect) (t4 : Bool) (t5 : Int) (c2_0 c2_1 : ByteArray) (c2_2 c2_3 c2_4 c2_5 : Int) (c2_6 c2_7 : List Rect) : k_zab_0 F Post .ret (st_zab_0 t1 t4 t5 c2_0 c2_1 c2_2 c2_3 c2_4 c2_5 c2_6 c2_7) = g_zab_c0_0 (fun r0 => Post (.bool r0)) t1 t4 t5 c2_0 c2_1 c2_2 c2_3 c2_4 c2_5 c2_6 c2_7 := by kernel_rfl
theorem cont_zab_0_1 (F : Nat) (Post : AVal UU → Prop) (t1 : List Rect) (t4 : Bool) (t5 : Int) (c2_0 c2_1 : ByteArray) (c2_2 c2_3 c2_4 c2_5 : Int) (c2_6 c2_7 : List Rect) : k_zab_0 F Post (.exit 0) (st_zab_0 t1 t4 t5 c2_0 c2_1 c2_2 c2_3 c2_4 c2_5 c2_6 c2_7) = g_zab_c0_1 (fun r0 => Post (.bool r0)) t1 t4 t5 c2_0 c2_1 c2_2 c2_3 c2_4 c2_5 c2_6 c2_7 := by kernel_rfl
theorem entry_zab (F : Nat) (Post : AVal UU → Prop) (qe qf : ByteArray) (qg qh qa qb : Int) (qc qd a1 : List Rect) : exec C_zz Tryz.f92.ntmps M_zab F 0 (bo Tryz.f92) (initSt [.agg [.str qe, .str qf, .int .i64 qg, .int .i64 qh, .int .i64 qa, .int .i64 qb, .sl .rect qc, .sl .rect qd], .sl .rect a1]) (AEnds C_zz false Tryz.f92 Post) = g_zab_e qe qf qg qh qa qb qc qd a1 (fun r0 => Post (.bool r0)) (fun t1 t4 t5 c2_0 c2_1 c2_2 c2_3 c2_4 c2_5 c2_6 c2_7 => b_zab_0 F F 0 (st_zab_0 t1 t4 t5 c2_0 c2_1 c2_2 c2_3 c2_4 c2_5 c2_6 c2_7) (k_zab_0 F Post)) := by kernel_rfl
theorem loop_zab_0 (F : Nat) (K : AEx → ASt UU → Prop) : ∀ (n r : Nat) (t1 : List Rect) (t4 : Bool) (t5 : Int) (c2_0 c2_1 : ByteArray) (c2_2 c2_3 c2_4 c2_5 : Int) (c2_6 c2_7 : List Rect), b_zab_0 F n r (st_zab_0 t1 t4 t5 c2_0 c2_1 c2_2 c2_3 c2_4 c2_5 c2_6 c2_7) K = w_zab_0 F  (fun t1 t4 t5 c2_0 c2_1 c2_2 c2_3 c2_4 c2_5 c2_6 c2_7 => K .ret (st_zab_0 t1 t4 t5 c2_0 c2_1 c2_2 c2_3 c2_4 c2_5 c2_6 c2_7)) (fun t1 t4 t5 c2_0 c2_1 c2_2 c2_3 c2_4 c2_5 c2_6 c2_7 => K (.exit 0) (st_zab_0 t1 t4 t5 c2_0 c2_1 c2_2 c2_3 c2_4 c2_5 c2_6 c2_7)) n t1 t4 t5 c2_0 c2_1 c2_2 c2_3 c2_4 c2_5 c2_6 c2_7 := by
 intro n
 induction n with
 | zero => intros; rfl
 | succ n ih =>
  intro r t1 t4 t5 c2_0 c2_1 c2_2 c2_3 c2_4 c2_5 c2_6 c2_7
  have e : (fun t1 t4 t5 c2_0 c2_1 c2_2 c2_3 c2_4 c2_5 c2_6 c2_7 => b_zab_0 F n (r + 1) (st_zab_0 t1 t4 t5 c2_0 c2_1 c2_2 c2_3 c2_4 c2_5 c2_6 c2_7) K) = w_zab_0 F  (fun t1 t4 t5 c2_0 c2_1 c2_2 c2_3 c2_4 c2_5 c2_6 c2_7 => K .ret (st_zab_0 t1 t4 t5 c2_0 c2_1 c2_2 c2_3 c2_4 c2_5 c2_6 c2_7)) (fun t1 t4 t5 c2_0 c2_1 c2_2 c2_3 c2_4 c2_5 c2_6 c2_7 => K (.exit 0) (st_zab_0 t1 t4 t5 c2_0 c2_1 c2_2 c2_3 c2_4 c2_5 c2_6 c2_7)) n := by
   funext t1 t4 t5 c2_0 c2_1 c2_2 c2_3 c2_4 c2_5 c2_6 c2_7
   exact ih (r + 1) t1 t4 t5 c2_0 c2_1 c2_2 c2_3 c2_4 c2_5 c2_6 c2_7
  rw [step_zab_0, e]
  rfl
theorem nl_zab_0 (F : Nat) (Post : AVal UU → Prop) (t1 : List Rect) (t4 : Bool) (t5 : Int) (c2_0 c2_1 : ByteArray) (c2_2 c2_3 c2_4 c2_5 : Int) (c2_6 c2_7 : List Rect) : b_zab_0 F F 0 (st_zab_0 t1 t4 t5 c2_0 c2_1 c2_2 c2_3 c2_4 c2_5 c2_6 c2_7) (k_zab_0 F Post) = n_zab_0 F (fun r0 => Post (.bool r0)) t1 t4 t5 c2_0 c2_1 c2_2 c2_3 c2_4 c2_5 c2_6 c2_7 := by
 rw [loop_zab_0]
 have h0 : (fun t1 t4 t5 c2_0 c2_1 c2_2 c2_3 c2_4 c2_5 c2_6 c2_7 => k_zab_0 F Post .ret (st_zab_0 t1 t4 t5 c2_0 c2_1 c2_2 c2_3 c2_4 c2_5 c2_6 c2_7)) = (fun t1 t4 t5 c2_0 c2_1 c2_2 c2_3 c2_4 c2_5 c2_6 c2_7 => g_zab_c0_0 (fun r0 => Post (.bool r0)) t1 t4 t5 c2_0 c2_1 c2_2 c2_3 c2_4 c2_5 c2_6 c2_7) := by
  funext t1 t4 t5 c2_0 c2_1 c2_2 c2_3 c2_4 c2_5 c2_6 c2_7
  rw [cont_zab_0_0]
 have h1 : (fun t1 t4 t5 c2_0 c2_1 c2_2 c2_3 c2_4 c2_5 c2_6 c2_7 => k_zab_0 F Post (.exit 0) (st_zab_0 t1 t4 t5 c2_0 c2_1 c2_2 c2_3 c2_4 c2_5 c2_6 c2_7)) = (fun t1 t4 t5 c2_0 c2_1 c2_2 c2_3 c2_4 c2_5 c2_6 c2_7 => g_zab_c0_1 (fun r0 => Post (.bool r0)) t1 t4 t5 c2_0 c2_1 c2_2 c2_3 c2_4 c2_5 c2_6 c2_7) := by
  funext t1 t4 t5 c2_0 c2_1 c2_2 c2_3 c2_4 c2_5 c2_6 c2_7
  rw [cont_zab_0_1]
 rw [h0, h1]
 rfl
theorem exec_zab (F : Nat) (Post : AVal UU → Prop) (qe qf : ByteArray) (qg qh qa qb : Int) (qc qd a1 : List Rect) : exec C_zz Tryz.f92.ntmps M_zab F 0 (bo Tryz.f92) (initSt [.agg [.str qe, .str qf, .int .i64 qg, .int .i64 qh, .int .i64 qa, .int .i64 qb, .sl .rect qc, .sl .rect qd], .sl .rect a1]) (AEnds C_zz false Tryz.f92 Post) = w_zab F qe qf qg qh qa qb qc qd a1 (fun r0 => Post (.bool r0)) := by
 rw [entry_zab]
 have e0 : (fun t1 t4 t5 c2_0 c2_1 c2_2 c2_3 c2_4 c2_5 c2_6 c2_7 => b_zab_0 F F 0 (st_zab_0 t1 t4 t5 c2_0 c2_1 c2_2 c2_3 c2_4 c2_5 c2_6 c2_7) (k_zab_0 F Post)) = (n_zab_0 F (fun r0 => Post (.bool r0))) := by
  funext t1 t4 t5 c2_0 c2_1 c2_2 c2_3 c2_4 c2_5 c2_6 c2_7
  exact nl_zab_0 F Post t1 t4 t5 c2_0 c2_1 c2_2 c2_3 c2_4 c2_5 c2_6 c2_7
 rw [e0]
 rfl
def m_zab : Model UU
 | [.agg [.str qe, .str qf, .int .i64 qg, .int .i64 qh, .int .i64 qa, .int .i64 qb, .sl .rect qc, .sl .rect qd], .sl .rect a1] => some ([pre_zab qe qf qg qh qa qb qc qd a1], .bool (sp_zab qe qf qg qh qa qb qc qd a1))
 | _ => none
def C_zab : Cfg UU := C_zz.add 92 m_zab
theorem s_zab : SumOK C_zab := by
 refine s_zz.addD mixed (fn := Tryz.f92) (c := bo Tryz.f92) Tryz.func92 (by kernel_rfl) (by kernel_rfl) ?_
 intro xs cs r h hc
 unfold m_zab at h
 split at h
 ·rename_i qe qf qg qh qa qb qc qd a1
  cases h
  obtain ⟨F, hF⟩ := ok_zab qe qf qg qh qa qb qc qd a1 hc
  refine ⟨by kernel_rfl, M_zab, F, false, ⟨?_⟩⟩
  rw [exec_zab]
  refine hF _ ?_
  rfl
 ·cases h
def b_zat_0 (F n r : Nat) (S : ASt UU) (K : AEx → ASt UU → Prop) : Prop := iter (execG (inliner M_zat F 0 C_zab) C_zab Tryz.f127.ntmps M_zat F 0 (cL (cB (cF (cS (cS (cS (cS (cS (cS (bo Tryz.f127))))))))))) (M_zat 0 0) n r S K
def k_zat_0 (F : Nat) (Post : AVal UU → Prop) : AEx → ASt UU → Prop := kBlock 0 (kSeq (inliner M_zat F 0 C_zab) C_zab Tryz.f127.ntmps M_zat F 0 (cS (cS (cS (cS (cS (cS (cS (bo Tryz.f127)))))))) (AEnds C_zab true Tryz.f127 Post))
theorem step_zat_0 (F n r : Nat) (K : AEx → ASt UU → Prop) (t8 : Int) (l48 : zzI) : b_zat_0 F (n + 1) r (st_zat_0 t8 l48) K = g_zat_s0 (fun t8 l48 => b_zat_0 F n (r + 1) (st_zat_0 t8 l48) K) (fun t8 l48 => K (.exit 0) (st_zat_0 t8 l48)) t8 l48 := by kernel_rfl
theorem cont_zat_0_0 (F : Nat) (Post : AVal UU → Prop) (t8 : Int) (l48 : zzI) : k_zat_0 F Post (.exit 0) (st_zat_0 t8 l48) = g_zat_c0_0 (fun r0 => Post (.new .int r0)) t8 l48 := by kernel_rfl
theorem entry_zat (F : Nat) (Post : AVal UU → Prop) (a0 : zzI) (a1 : Int) : exec C_zab Tryz.f127.ntmps M_zat F 0 (bo Tryz.f127) (initSt [.sl .int a0, .int .i64 a1]) (AEnds C_zab true Tryz.f127 Post) = g_zat_e a0 a1 (fun r0 => Post (.new .int r0)) (fun t8 l48 => b_zat_0 F F 0 (st_zat_0 t8 l48) (k_zat_0 F Post)) := by kernel_rfl
theorem loop_zat_0 (F : Nat) (K : AEx → ASt UU → Prop) : ∀ (n r : Nat) (t8 : Int) (l48 : zzI), b_zat_0 F n r (st_zat_0 t8 l48) K = w_zat_0 F  (fun t8 l48 => K (.exit 0) (st_zat_0 t8 l48)) n t8 l48 := by
 intro n
 induction n with
 | zero => intros; rfl
 | succ n ih =>
  intro r t8 l48
  have e : (fun t8 l48 => b_zat_0 F n (r + 1) (st_zat_0 t8 l48) K) = w_zat_0 F  (fun t8 l48 => K (.exit 0) (st_zat_0 t8 l48)) n := by
   funext t8 l48
   exact ih (r + 1) t8 l48
  rw [step_zat_0, e]
  rfl
theorem nl_zat_0 (F : Nat) (Post : AVal UU → Prop) (t8 : Int) (l48 : zzI) : b_zat_0 F F 0 (st_zat_0 t8 l48) (k_zat_0 F Post) = n_zat_0 F (fun r0 => Post (.new .int r0)) t8 l48 := by
 rw [loop_zat_0]
 have h0 : (fun t8 l48 => k_zat_0 F Post (.exit 0) (st_zat_0 t8 l48)) = (fun t8 l48 => g_zat_c0_0 (fun r0 => Post (.new .int r0)) t8 l48) := by
  funext t8 l48
  rw [cont_zat_0_0]
 rw [h0]
 rfl
theorem exec_zat (F : Nat) (Post : AVal UU → Prop) (a0 : zzI) (a1 : Int) : exec C_zab Tryz.f127.ntmps M_zat F 0 (bo Tryz.f127) (initSt [.sl .int a0, .int .i64 a1]) (AEnds C_zab true Tryz.f127 Post) = w_zat F a0 a1 (fun r0 => Post (.new .int r0)) := by
 rw [entry_zat]
 have e0 : (fun t8 l48 => b_zat_0 F F 0 (st_zat_0 t8 l48) (k_zat_0 F Post)) = (n_zat_0 F (fun r0 => Post (.new .int r0))) := by
  funext t8 l48
  exact nl_zat_0 F Post t8 l48
 rw [e0]
 rfl
def m_zat : Model UU
 | [.sl .int a0, .int .i64 a1] => some ([pre_zat a0 a1], .new .int (sp_zat a0 a1))
 | _ => none
def C_zat : Cfg UU := C_zab.add 127 m_zat
theorem s_zat : SumOK C_zat := by
 refine s_zab.addD mixed (fn := Tryz.f127) (c := bo Tryz.f127) Tryz.func127 (by kernel_rfl) (by kernel_rfl) ?_
 intro xs cs r h hc
 unfold m_zat at h
 split at h
 ·rename_i a0 a1
  cases h
  obtain ⟨F, hF⟩ := ok_zat a0 a1 hc
  refine ⟨by kernel_rfl, M_zat, F, true, ⟨?_⟩⟩
  rw [exec_zat]
  refine hF _ ?_
  rfl
 ·cases h
def b_zas_0 (F n r : Nat) (S : ASt UU) (K : AEx → ASt UU → Prop) : Prop := iter (execG (inliner M_zas F 0 C_zat) C_zat Tryz.f128.ntmps M_zas F 0 (cL (cB (cF (cS (cS (cS (bo Tryz.f128)))))))) (M_zas 0 0) n r S K
def k_zas_0 (F : Nat) (Post : AVal UU → Prop) : AEx → ASt UU → Prop := kBlock 0 (kSeq (inliner M_zas F 0 C_zat) C_zat Tryz.f128.ntmps M_zas F 0 (cS (cS (cS (cS (bo Tryz.f128))))) (AEnds C_zat false Tryz.f128 Post))
theorem step_zas_0 (F n r : Nat) (K : AEx → ASt UU → Prop) (t0 : zzI) (t1 t6 t7 t8 : Int) : b_zas_0 F (n + 1) r (st_zas_0 t0 t1 t6 t7 t8) K = g_zas_s0 (fun t0 t1 t6 t7 t8 => b_zas_0 F n (r + 1) (st_zas_0 t0 t1 t6 t7 t8) K) (fun t0 t1 t6 t7 t8 => K (.exit 0) (st_zas_0 t0 t1 t6 t7 t8)) t0 t1 t6 t7 t8 := by kernel_rfl
theorem cont_zas_0_0 (F : Nat) (Post : AVal UU → Prop) (t0 : zzI) (t1 t6 t7 t8 : Int) : k_zas_0 F Post (.exit 0) (st_zas_0 t0 t1 t6 t7 t8) = g_zas_c0_0 (fun r0 r1 => Post (.tup [.int .i64 r0, .bool r1])) t0 t1 t6 t7 t8 := by kernel_rfl
theorem entry_zas (F : Nat) (Post : AVal UU → Prop) (a0 : zzI) (a1 : Int) : exec C_zat Tryz.f128.ntmps M_zas F 0 (bo Tryz.f128) (initSt [.sl .int a0, .int .i64 a1]) (AEnds C_zat false Tryz.f128 Post) = g_zas_e a0 a1 (fun r0 r1 => Post (.tup [.int .i64 r0, .bool r1])) (fun t0 t1 t6 t7 t8 => b_zas_0 F F 0 (st_zas_0 t0 t1 t6 t7 t8) (k_zas_0 F Post)) := by kernel_rfl
theorem loop_zas_0 (F : Nat) (K : AEx → ASt UU → Prop) : ∀ (n r : Nat) (t0 : zzI) (t1 t6 t7 t8 : Int), b_zas_0 F n r (st_zas_0 t0 t1 t6 t7 t8) K = w_zas_0 F  (fun t0 t1 t6 t7 t8 => K (.exit 0) (st_zas_0 t0 t1 t6 t7 t8)) n t0 t1 t6 t7 t8 := by
 intro n
 induction n with
 | zero => intros; rfl
 | succ n ih =>
  intro r t0 t1 t6 t7 t8
  have e : (fun t0 t1 t6 t7 t8 => b_zas_0 F n (r + 1) (st_zas_0 t0 t1 t6 t7 t8) K) = w_zas_0 F  (fun t0 t1 t6 t7 t8 => K (.exit 0) (st_zas_0 t0 t1 t6 t7 t8)) n := by
   funext t0 t1 t6 t7 t8
   exact ih (r + 1) t0 t1 t6 t7 t8
  rw [step_zas_0, e]
  rfl
theorem nl_zas_0 (F : Nat) (Post : AVal UU → Prop) (t0 : zzI) (t1 t6 t7 t8 : Int) : b_zas_0 F F 0 (st_zas_0 t0 t1 t6 t7 t8) (k_zas_0 F Post) = n_zas_0 F (fun r0 r1 => Post (.tup [.int .i64 r0, .bool r1])) t0 t1 t6 t7 t8 := by
 rw [loop_zas_0]
 have h0 : (fun t0 t1 t6 t7 t8 => k_zas_0 F Post (.exit 0) (st_zas_0 t0 t1 t6 t7 t8)) = (fun t0 t1 t6 t7 t8 => g_zas_c0_0 (fun r0 r1 => Post (.tup [.int .i64 r0, .bool r1])) t0 t1 t6 t7 t8) := by
  funext t0 t1 t6 t7 t8
  rw [cont_zas_0_0]
 rw [h0]
 rfl
theorem exec_zas (F : Nat) (Post : AVal UU → Prop) (a0 : zzI) (a1 : Int) : exec C_zat Tryz.f128.ntmps M_zas F 0 (bo Tryz.f128) (initSt [.sl .int a0, .int .i64 a1]) (AEnds C_zat false Tryz.f128 Post) = w_zas F a0 a1 (fun r0 r1 => Post (.tup [.int .i64 r0, .bool r1])) := by
 rw [entry_zas]
 have e0 : (fun t0 t1 t6 t7 t8 => b_zas_0 F F 0 (st_zas_0 t0 t1 t6 t7 t8) (k_zas_0 F Post)) = (n_zas_0 F (fun r0 r1 => Post (.tup [.int .i64 r0, .bool r1]))) := by
  funext t0 t1 t6 t7 t8
  exact nl_zas_0 F Post t0 t1 t6 t7 t8
 rw [e0]
 rfl
def m_zas : Model UU
 | [.sl .int a0, .int .i64 a1] => some ([pre_zas a0 a1], .tup [.int .i64 ((sp_zas a0 a1).1), .bool ((sp_zas a0 a1).2)])
 | _ => none
def C_zas : Cfg UU := C_zat.add 128 m_zas
theorem s_zas : SumOK C_zas := by
 refine s_zat.addD mixed (fn := Tryz.f128) (c := bo Tryz.f128) Tryz.func128 (by kernel_rfl) (by kernel_rfl) ?_
 intro xs cs r h hc
 unfold m_zas at h
 split at h
 ·rename_i a0 a1
  cases h
  obtain ⟨F, hF⟩ := ok_zas a0 a1 hc
  refine ⟨by kernel_rfl, M_zas, F, false, ⟨?_⟩⟩
  rw [exec_zas]
  refine hF _ ?_
  rfl
 ·cases h
def b_zaj_0 (F n r : Nat) (S : ASt UU) (K : AEx → ASt UU → Prop) : Prop := iter (execG (inliner M_zaj F 0 C_zas) C_zas Tryz.f71.ntmps M_zaj F 0 (cL (cB (cF (cS (cS (cS (bo Tryz.f71)))))))) (M_zaj 0 0) n r S K
def k_zaj_0 (F : Nat) (Post : AVal UU → Prop) : AEx → ASt UU → Prop := kBlock 0 (kSeq (inliner M_zaj F 0 C_zas) C_zas Tryz.f71.ntmps M_zaj F 0 (cS (cS (cS (cS (bo Tryz.f71))))) (AEnds C_zas true Tryz.f71 Post))
theorem step_zaj_0 (F n r : Nat) (K : AEx → ASt UU → Prop) (t0 : zzI) (t1 t6 : Int) (l51 : zzI) : b_zaj_0 F (n + 1) r (st_zaj_0 t0 t1 t6 l51) K = g_zaj_s0 (fun t0 t1 t6 l51 => b_zaj_0 F n (r + 1) (st_zaj_0 t0 t1 t6 l51) K) (fun t0 t1 t6 l51 => K (.exit 0) (st_zaj_0 t0 t1 t6 l51)) t0 t1 t6 l51 := by kernel_rfl
theorem cont_zaj_0_0 (F : Nat) (Post : AVal UU → Prop) (t0 : zzI) (t1 t6 : Int) (l51 : zzI) : k_zaj_0 F Post (.exit 0) (st_zaj_0 t0 t1 t6 l51) = g_zaj_c0_0 (fun r0 => Post (.new .int r0)) t0 t1 t6 l51 := by kernel_rfl
theorem entry_zaj (F : Nat) (Post : AVal UU → Prop) (a0 : zzI) (a1 : Int) : exec C_zas Tryz.f71.ntmps M_zaj F 0 (bo Tryz.f71) (initSt [.sl .int a0, .int .i64 a1]) (AEnds C_zas true Tryz.f71 Post) = g_zaj_e a0 a1 (fun r0 => Post (.new .int r0)) (fun t0 t1 t6 l51 => b_zaj_0 F F 0 (st_zaj_0 t0 t1 t6 l51) (k_zaj_0 F Post)) := by kernel_rfl
theorem loop_zaj_0 (F : Nat) (K : AEx → ASt UU → Prop) : ∀ (n r : Nat) (t0 : zzI) (t1 t6 : Int) (l51 : zzI), b_zaj_0 F n r (st_zaj_0 t0 t1 t6 l51) K = w_zaj_0 F  (fun t0 t1 t6 l51 => K (.exit 0) (st_zaj_0 t0 t1 t6 l51)) n t0 t1 t6 l51 := by
 intro n
 induction n with
 | zero => intros; rfl
 | succ n ih =>
  intro r t0 t1 t6 l51
  have e : (fun t0 t1 t6 l51 => b_zaj_0 F n (r + 1) (st_zaj_0 t0 t1 t6 l51) K) = w_zaj_0 F  (fun t0 t1 t6 l51 => K (.exit 0) (st_zaj_0 t0 t1 t6 l51)) n := by
   funext t0 t1 t6 l51
   exact ih (r + 1) t0 t1 t6 l51
  rw [step_zaj_0, e]
  rfl
theorem nl_zaj_0 (F : Nat) (Post : AVal UU → Prop) (t0 : zzI) (t1 t6 : Int) (l51 : zzI) : b_zaj_0 F F 0 (st_zaj_0 t0 t1 t6 l51) (k_zaj_0 F Post) = n_zaj_0 F (fun r0 => Post (.new .int r0)) t0 t1 t6 l51 := by
 rw [loop_zaj_0]
 have h0 : (fun t0 t1 t6 l51 => k_zaj_0 F Post (.exit 0) (st_zaj_0 t0 t1 t6 l51)) = (fun t0 t1 t6 l51 => g_zaj_c0_0 (fun r0 => Post (.new .int r0)) t0 t1 t6 l51) := by
  funext t0 t1 t6 l51
  rw [cont_zaj_0_0]
 rw [h0]
 rfl
theorem exec_zaj (F : Nat) (Post : AVal UU → Prop) (a0 : zzI) (a1 : Int) : exec C_zas Tryz.f71.ntmps M_zaj F 0 (bo Tryz.f71) (initSt [.sl .int a0, .int .i64 a1]) (AEnds C_zas true Tryz.f71 Post) = w_zaj F a0 a1 (fun r0 => Post (.new .int r0)) := by
 rw [entry_zaj]
 have e0 : (fun t0 t1 t6 l51 => b_zaj_0 F F 0 (st_zaj_0 t0 t1 t6 l51) (k_zaj_0 F Post)) = (n_zaj_0 F (fun r0 => Post (.new .int r0))) := by
  funext t0 t1 t6 l51
  exact nl_zaj_0 F Post t0 t1 t6 l51
 rw [e0]
 rfl
def m_zaj : Model UU
 | [.sl .int a0, .int .i64 a1] => some ([pre_zaj a0 a1], .new .int (sp_zaj a0 a1))
 | _ => none
def C_zaj : Cfg UU := C_zas.add 71 m_zaj
theorem s_zaj : SumOK C_zaj := by
 refine s_zas.addD mixed (fn := Tryz.f71) (c := bo Tryz.f71) Tryz.func71 (by kernel_rfl) (by kernel_rfl) ?_
 intro xs cs r h hc
 unfold m_zaj at h
 split at h
 ·rename_i a0 a1
  cases h
  obtain ⟨F, hF⟩ := ok_zaj a0 a1 hc
  refine ⟨by kernel_rfl, M_zaj, F, true, ⟨?_⟩⟩
  rw [exec_zaj]
  refine hF _ ?_
  rfl
 ·cases h
def b_zar_0 (F n r : Nat) (S : ASt UU) (K : AEx → ASt UU → Prop) : Prop := iter (execG (inliner M_zar F 0 C_zaj) C_zaj Tryz.f130.ntmps M_zar F 0 (cL (cB (cS (cF (cS (bo Tryz.f130))))))) (M_zar 0 0) n r S K
def k_zar_0 (F : Nat) (Post : AVal UU → Prop) : AEx → ASt UU → Prop := kBlock 0 (kSeq (inliner M_zar F 0 C_zaj) C_zaj Tryz.f130.ntmps M_zar F 0 (cS (cS (bo Tryz.f130))) (AEnds C_zaj false Tryz.f130 Post))
theorem step_zar_0 (F n r : Nat) (K : AEx → ASt UU → Prop) (t0 : zzI) (t1 t4 t5 : Int) : b_zar_0 F (n + 1) r (st_zar_0 t0 t1 t4 t5) K = g_zar_s0 (fun t0 t1 t4 t5 => b_zar_0 F n (r + 1) (st_zar_0 t0 t1 t4 t5) K) (fun t0 t1 t4 t5 => K .ret (st_zar_0 t0 t1 t4 t5)) (fun t0 t1 t4 t5 => K (.exit 0) (st_zar_0 t0 t1 t4 t5)) t0 t1 t4 t5 := by kernel_rfl
theorem cont_zar_0_0 (F : Nat) (Post : AVal UU → Prop) (t0 : zzI) (t1 t4 t5 : Int) : k_zar_0 F Post .ret (st_zar_0 t0 t1 t4 t5) = g_zar_c0_0 (fun r0 => Post (.int .i64 r0)) t0 t1 t4 t5 := by kernel_rfl
theorem cont_zar_0_1 (F : Nat) (Post : AVal UU → Prop) (t0 : zzI) (t1 t4 t5 : Int) : k_zar_0 F Post (.exit 0) (st_zar_0 t0 t1 t4 t5) = g_zar_c0_1 (fun r0 => Post (.int .i64 r0)) t0 t1 t4 t5 := by kernel_rfl
theorem entry_zar (F : Nat) (Post : AVal UU → Prop) (a0 : zzI) (a1 : Int) : exec C_zaj Tryz.f130.ntmps M_zar F 0 (bo Tryz.f130) (initSt [.sl .int a0, .int .i64 a1]) (AEnds C_zaj false Tryz.f130 Post) = g_zar_e a0 a1 (fun r0 => Post (.int .i64 r0)) (fun t0 t1 t4 t5 => b_zar_0 F F 0 (st_zar_0 t0 t1 t4 t5) (k_zar_0 F Post)) := by kernel_rfl
theorem loop_zar_0 (F : Nat) (K : AEx → ASt UU → Prop) : ∀ (n r : Nat) (t0 : zzI) (t1 t4 t5 : Int), b_zar_0 F n r (st_zar_0 t0 t1 t4 t5) K = w_zar_0 F  (fun t0 t1 t4 t5 => K .ret (st_zar_0 t0 t1 t4 t5)) (fun t0 t1 t4 t5 => K (.exit 0) (st_zar_0 t0 t1 t4 t5)) n t0 t1 t4 t5 := by
 intro n
 induction n with
 | zero => intros; rfl
 | succ n ih =>
  intro r t0 t1 t4 t5
  have e : (fun t0 t1 t4 t5 => b_zar_0 F n (r + 1) (st_zar_0 t0 t1 t4 t5) K) = w_zar_0 F  (fun t0 t1 t4 t5 => K .ret (st_zar_0 t0 t1 t4 t5)) (fun t0 t1 t4 t5 => K (.exit 0) (st_zar_0 t0 t1 t4 t5)) n := by
   funext t0 t1 t4 t5
   exact ih (r + 1) t0 t1 t4 t5
  rw [step_zar_0, e]
  rfl
theorem nl_zar_0 (F : Nat) (Post : AVal UU → Prop) (t0 : zzI) (t1 t4 t5 : Int) : b_zar_0 F F 0 (st_zar_0 t0 t1 t4 t5) (k_zar_0 F Post) = n_zar_0 F (fun r0 => Post (.int .i64 r0)) t0 t1 t4 t5 := by
 rw [loop_zar_0]
 have h0 : (fun t0 t1 t4 t5 => k_zar_0 F Post .ret (st_zar_0 t0 t1 t4 t5)) = (fun t0 t1 t4 t5 => g_zar_c0_0 (fun r0 => Post (.int .i64 r0)) t0 t1 t4 t5) := by
  funext t0 t1 t4 t5
  rw [cont_zar_0_0]
 have h1 : (fun t0 t1 t4 t5 => k_zar_0 F Post (.exit 0) (st_zar_0 t0 t1 t4 t5)) = (fun t0 t1 t4 t5 => g_zar_c0_1 (fun r0 => Post (.int .i64 r0)) t0 t1 t4 t5) := by
  funext t0 t1 t4 t5
  rw [cont_zar_0_1]
 rw [h0, h1]
 rfl
theorem exec_zar (F : Nat) (Post : AVal UU → Prop) (a0 : zzI) (a1 : Int) : exec C_zaj Tryz.f130.ntmps M_zar F 0 (bo Tryz.f130) (initSt [.sl .int a0, .int .i64 a1]) (AEnds C_zaj false Tryz.f130 Post) = w_zar F a0 a1 (fun r0 => Post (.int .i64 r0)) := by
 rw [entry_zar]
 have e0 : (fun t0 t1 t4 t5 => b_zar_0 F F 0 (st_zar_0 t0 t1 t4 t5) (k_zar_0 F Post)) = (n_zar_0 F (fun r0 => Post (.int .i64 r0))) := by
  funext t0 t1 t4 t5
  exact nl_zar_0 F Post t0 t1 t4 t5
 rw [e0]
 rfl
def m_zar : Model UU
 | [.sl .int a0, .int .i64 a1] => some ([pre_zar a0 a1], .int .i64 (sp_zar a0 a1))
 | _ => none
def C_zar : Cfg UU := C_zaj.add 130 m_zar
theorem s_zar : SumOK C_zar := by
 refine s_zaj.addD mixed (fn := Tryz.f130) (c := bo Tryz.f130) Tryz.func130 (by kernel_rfl) (by kernel_rfl) ?_
 intro xs cs r h hc
 unfold m_zar at h
 split at h
 ·rename_i a0 a1
  cases h
  obtain ⟨F, hF⟩ := ok_zar a0 a1 hc
  refine ⟨by kernel_rfl, M_zar, F, false, ⟨?_⟩⟩
  rw [exec_zar]
  refine hF _ ?_
  rfl
 ·cases h
set_option maxRecDepth 100000
theorem entry_zb (F : Nat) (Post : AVal UU → Prop) (qe qf : ByteArray) (qg qh qa qb : Int) (qc qd : List Rect) : exec C_zar Tryz.f34.ntmps M_zb F 0 (bo Tryz.f34) (initSt [.agg [.str qe, .str qf, .int .i64 qg, .int .i64 qh, .int .i64 qa, .int .i64 qb, .sl .rect qc, .sl .rect qd]]) (AEnds C_zar false Tryz.f34 Post) = g_zb_e qe qf qg qh qa qb qc qd (fun r0 => Post (.int .i64 r0)) := by kernel_rfl
theorem exec_zb (F : Nat) (Post : AVal UU → Prop) (qe qf : ByteArray) (qg qh qa qb : Int) (qc qd : List Rect) : exec C_zar Tryz.f34.ntmps M_zb F 0 (bo Tryz.f34) (initSt [.agg [.str qe, .str qf, .int .i64 qg, .int .i64 qh, .int .i64 qa, .int .i64 qb, .sl .rect qc, .sl .rect qd]]) (AEnds C_zar false Tryz.f34 Post) = w_zb F qe qf qg qh qa qb qc qd (fun r0 => Post (.int .i64 r0)) := by
 rw [entry_zb]
 rfl
def m_zb : Model UU
 | [.agg [.str qe, .str qf, .int .i64 qg, .int .i64 qh, .int .i64 qa, .int .i64 qb, .sl .rect qc, .sl .rect qd]] => some ([pre_zb qe qf qg qh qa qb qc qd], .int .i64 (sp_zb qe qf qg qh qa qb qc qd))
 | _ => none
def C_zb : Cfg UU := C_zar.add 34 m_zb
theorem s_zb : SumOK C_zb := by
 refine s_zar.addD mixed (fn := Tryz.f34) (c := bo Tryz.f34) Tryz.func34 (by kernel_rfl) (by kernel_rfl) ?_
 intro xs cs r h hc
 unfold m_zb at h
 split at h
 ·rename_i qe qf qg qh qa qb qc qd
  cases h
  obtain ⟨F, hF⟩ := ok_zb qe qf qg qh qa qb qc qd hc
  refine ⟨by kernel_rfl, M_zb, F, false, ⟨?_⟩⟩
  rw [exec_zb]
  refine hF _ ?_
  rfl
 ·cases h
end
end Go.Proofs.YteffpgliiilnjaaGreatDoor
namespace Go.Proofs.YteffpgliiilnjaaGreatDoor
open Go.Shelf Go.RowKit Go.Lib Go.Sort
theorem ownsRow_grow {w : World} {os : Array Obj} {base : Nat} {e : TypeId} {u : Value} {n : Nat} {cs : List Value} (h : w.ownsRow base e 1 u n cs) : (grow w os).ownsRow base e 1 u n cs := by
 refine ⟨h.1, ?_⟩
 rcases h.2 with hn | ⟨g, cap, cur, h1, h2, h3, rest⟩
 ·exact .inl hn
 ·exact .inr ⟨g, cap, cur, h1, h2, by rw [heap_grow_old _ _ (Array.getElem?_eq_some_iff.1 h3).1]; exact h3, rest⟩
theorem below_grow_ {B : Nat} {w0 w : World} {os : Array Obj} (h : Below B w0 w) (hB : B ≤ w.heap.size) : Below B w0 (grow w os) :=
 ⟨h.os, h.tape, h.output, by have := h.size; rw [size_grow]; omega, fun k hk => by rw [heap_grow_old _ _ (by omega)]; exact h.block k hk⟩
set_option maxHeartbeats 1000000 in
set_option maxRecDepth 100000 in
theorem places_none (p : Option Addr) (c : Nat) (w : World) :
  Calls Tryz.prog 126 #[.slice p 0 c] w fun e w' => e = .returned (.slice p 0 c) ∧ w' = w := by
 have hS := fun q c W => Tryz.slices_Sort_int_none q c W
 have hC := fun q c W => Tryz.slices_Compact_int_empty q c W
 go_enter Tryz.func126, Tryz.ntmps126
 go_wp2_with (first
  | (go_at_call 164; refine (hS _ _ _).mono ?_; rintro e w' ⟨rfl, rfl⟩)
  | (go_at_call 165; refine (hC _ _ _).mono ?_; rintro e w' ⟨rfl, rfl⟩))
 go_ret
 exact ⟨rfl, rfl⟩
set_option maxHeartbeats 1000000 in
set_option maxRecDepth 100000 in
theorem places_some (g cap : Nat) (l : zzI) (w : World) (hl : l.length ≤ 1000) (h5 : Holds (Value.int .i64) w g 0 l.toArray) (h3 : g < w.heap.size) (h4 : l.length ≤ cap) :
  Calls Tryz.prog 126 #[.slice (some ⟨g, 0, none⟩) l.length cap] w fun e w' => e = .returned (.slice (some ⟨g, 0, none⟩) (srtC l).length cap) ∧
   ∃ n1 os q, w' = putRow (Value.int .i64) (Sort.ahead (grow (putRow (Value.int .i64) (Sort.ahead w n1) g 0 (l.mergeSort fun x y => decide (x ≤ y)).toArray) os) q) g 0 (srtC l ++ List.replicate (l.length - (srtC l).length) 0).toArray := by
 have hS : Calls Tryz.prog 164 #[.slice (some ⟨g, 0, none⟩) l.length cap] w fun e w' => e = .returned (.tuple #[]) ∧ ∃ n os, w' = grow (putRow (Value.int .i64) (Sort.ahead w n) g 0 (l.mergeSort fun x y => decide (x ≤ y)).toArray) os :=
  Tryz.slices_Sort_int g 0 cap l w h5 h3 (by omega)
 have hlen : (l.mergeSort fun x y => decide (x ≤ y)).length = l.length := List.length_mergeSort ..
 have hM : ∀ (n1 : Nat) (os : Array Obj), Calls Tryz.prog 165 #[.slice (some ⟨g, 0, none⟩) l.length cap] (grow (putRow (Value.int .i64) (Sort.ahead w n1) g 0 (l.mergeSort fun x y => decide (x ≤ y)).toArray) os) fun e w' => e = .returned (.slice (some ⟨g, 0, none⟩) (srtC l).length cap) ∧ ∃ q, w' = putRow (Value.int .i64) (Sort.ahead (grow (putRow (Value.int .i64) (Sort.ahead w n1) g 0 (l.mergeSort fun x y => decide (x ≤ y)).toArray) os) q) g 0 (srtC l ++ List.replicate (l.length - (srtC l).length) 0).toArray := fun n1 os => by
  generalize hW : grow (putRow (Value.int .i64) (Sort.ahead w n1) g 0 (l.mergeSort fun x y => decide (x ≤ y)).toArray) os = W
  have hH : Holds (Value.int .i64) W g 0 (l.mergeSort fun x y => decide (x ≤ y)).toArray := by
   rw [← hW]
   refine holds_grow _ _ _ _ _ _ (by simpa using h3) ?_
   exact holds_putRow _ _ _ _ l.toArray _ h5 (by simp)
  have := Tryz.slices_Compact_int g 0 cap (l.mergeSort fun x y => decide (x ≤ y)) W hH (by rw [hlen]; omega) (by rw [hlen]; exact h4)
  rw [hlen] at this
  exact this
 generalize hsq : srtC l = sc at hM ⊢
 generalize hms : (l.mergeSort fun x y => decide (x ≤ y)) = ms at hS hM ⊢
 clear hsq hms hlen h5 h4
 generalize hn : l.length = n at hS hM ⊢
 clear hl hn
 go_enter Tryz.func126, Tryz.ntmps126
 go_wp2_with (first
  | (go_at_call 164; refine hS.mono ?_; rintro e w2 ⟨rfl, n1, os, rfl⟩)
  | (go_at_call 165; refine (hM _ _).mono ?_; rintro e w3 ⟨rfl, q, rfl⟩))
 go_ret
 exact ⟨rfl, n1, os, q, rfl⟩
end Go.Proofs.YteffpgliiilnjaaGreatDoor
namespace Go.Proofs.YteffpgliiilnjaaGreatDoor
open Go.Vm Go.RowKit
set_option linter.unusedVariables false
noncomputable section
def ePlaces : EModel UU
 | [.osl 0 g], .row .int g' l => cond (Nat.beq g g') (some ([l.length ≤ 1000], .osl 0 (g + 1), .row .int (g + 1) (srtC l))) none
 | _, _ => none
open Go.Sort in
theorem eff_places {C : Cfg UU} (hP : C.P = Tryz.prog) (hE : C.E = EE) (w0 : World) : EffFn C 126 ePlaces w0 := by
 refine ⟨fun args w => by rw [hP]; exact callFunc_run (fn := Tryz.f126) Tryz.func126 (by kernel_rfl) rfl args w, fun st ρ w args k0 xs ob ob' cs r hb hst hdom hsep hob hsz hrel hc0 hm hc hc1 hpr hown => ?_⟩
 unfold ePlaces at hm
 split at hm
 ·rename_i g g' l
  have hm2 := cond_some hm
  clear hm
  obtain ⟨hg, hm⟩ := hm2
  obtain rfl := Nat.eq_of_beq_eq_true hg
  cases hm
  obtain rfl : 0 = k0 := by cases hown; rfl
  have h2 : l.length ≤ 1000 := hc
  rw [hE] at hob hrel ⊢
  obtain ⟨u, cells, hu, hup, hro, hcs⟩ := hob
  have e0 := hrel 0 (by simp)
  obtain ⟨al⟩ := args
  match al, hsz with
  | [x], _ =>
   simp at e0
   obtain rfl : x = u := by
    cases e0 with
    | osl _ _ u' hu' _ =>
     rw [hu] at hu'
     cases hu'
     rfl
    | oslOld _ _ g2 u' v hu' hlt =>
     rw [hu] at hu'
     cases hu'
     omega
   rw [hP]
   have hbase : w0.heap.size ≤ w.heap.size := hb.size
   let ρ2 : Own := fun nm => if nm = .ob 0 then none else ρ nm
   have fin : ∀ (w' : World) (v' : Value) (cs' : List Value), w'.ownsRow w0.heap.size (UU.ety .int) (UU.size .int) v' (srtC l).length ((srtC l).map (Value.int .i64)) → (∀ a, v' ≠ .pointer a) → (∀ b, blk v' = some b → blk x = some b) → Go.RowKit.Below w0.heap.size w w' →
     (∀ b, b < w.heap.size → blk x ≠ some b → w'.heap[b]? = w.heap[b]?) → ∃ v ρ', Ending.returned v' = .returned v ∧ (((AVal.osl 0 (g + 1) : AVal UU).pureRes = true → Rel EE w' noOwn (fun _ => False) (.osl 0 (g + 1)) v) ∧ (ownRes 0 (.osl 0 (g + 1) : AVal UU) (.row .int (g + 1) (srtC l)) = true → Rel EE w' ρ' (fun _ => False) (.osl 0 (g + 1)) v)) ∧
   RelObj EE w' ρ' (fun b => (st b ∨ w.heap.size ≤ b ∨ ∃ nm g u, ρ nm = some (g, u) ∧ blk u = some b) ∧ b < w'.heap.size ∧ ∀ nm g u, ρ' nm = some (g, u) → blk u ≠ some b) w0.heap.size 0 (.row .int (g + 1) (srtC l)) ∧
   (∀ nm g' u, ρ' nm = some (g', u) → nm.id = 0 ∧ ((AObj.row .int (g + 1) (srtC l) : AObj UU).simple = true → nm = .ob 0)) ∧ Chg (fun _ => False) (fun i => i = 0) w0.heap.size ρ ρ' w w' := by
    intro w' v' cs' q1 qp q2 q3 q4
    have er : rset ρ (.ob 0) (g + 1) v' (.ob 0) = some (g + 1, v') := by simp [rset]
    refine ⟨v', rset ρ (.ob 0) (g + 1) v', rfl, ⟨(fun h => by cases h), fun _ => .osl 0 (g + 1) v' er qp⟩, ⟨v', _, er, qp, q1, fun i hi k hk => ?_⟩, fun nm q u hr => ?_, ?_⟩
    ·have hk0 : k = 0 := by
      have : k < 1 := hk
      omega
     subst hk0
     show Rel EE w' _ _ (.int .i64 (srtC l)[i]) _
     have : ((srtC l).map (Value.int .i64)).getD (i * UU.size .int + 0) undef = .int .i64 (srtC l)[i] := by
      show ((srtC l).map (Value.int .i64)).getD (i * 1 + 0) undef = _
      simp [hi]
     rw [this]
     exact .int _ _
    ·by_cases hn : nm = .ob 0
     ·subst hn
      exact ⟨rfl, fun _ => rfl⟩
     ·have hr' : ρ nm = some (q, u) := by
       unfold rset at hr
       rwa [if_neg hn] at hr
      have := (hdom nm q u hr').2 rfl
      exact absurd this hn
    ·have only0 : ∀ (nm : Name) q u, ρ nm = some (q, u) → nm = .ob 0 ∧ (q, u) = (g, x) := fun nm q u hr => by
      have e := (hdom nm q u hr).2 rfl
      subst e
      rw [hu] at hr
      cases hr
      exact ⟨rfl, rfl⟩
     refine ⟨fun nm hn => ?_, fun nm q u hn hr => ?_, q3, fun b hb hne => q4 b hb (hne (.ob 0) _ _ rfl hu), fun nm q u k hn h hbl => ?_, fun nm nm' q q' u u' k hn hn' h h' hne hbl => ?_⟩
     ·unfold rset
      rw [if_neg (fun e => hn (by rw [e]; rfl))]
     ·obtain ⟨rfl, e⟩ := only0 nm q u hr
      cases e
      exact .inr ⟨hup, _, _, er, by omega⟩
     ·by_cases hn0 : nm = .ob 0
      ·subst hn0
       rw [er] at h
       cases h
       exact .inl ⟨.ob 0, _, _, rfl, hu, q2 k hbl⟩
      ·unfold rset at h
       rw [if_neg hn0] at h
       exact absurd (only0 _ _ _ h).1 hn0
     ·exfalso
      have z : ∀ (nm : Name) q u, rset ρ (.ob 0) (g + 1) v' nm = some (q, u) → nm = .ob 0 := fun nm q u h => by
       refine Classical.byContradiction fun hn0 => ?_
       unfold rset at h
       rw [if_neg hn0] at h
       exact hn0 (only0 _ _ _ h).1
      exact hne ((z _ _ _ h).trans (z _ _ _ h').symm)
   rcases hro.2 with ⟨rfl, hn⟩ | ⟨b, cap, cur, rfl, q1, q2, q3, q4, q5, q6⟩
   ·have hl0 : l = [] := List.eq_nil_of_length_eq_zero hn
    subst hl0
    refine (places_none none 0 w).mono ?_
    rintro e w' ⟨rfl, rfl⟩
    have e3 : srtC ([] : zzI) = [] := List.eq_nil_of_length_eq_zero (Nat.le_zero.1 (srtC_len []))
    refine fin w' _ [] ?_ (fun a e => by cases e) (fun b hb => hb) (Go.RowKit.Below.refl _ _) (fun b hb _ => rfl)
    rw [e3]
    exact World.ownsRow_nil _ _ _ _
   ·have hbl : b < w.heap.size := (Array.getElem?_eq_some_iff.1 q2).1
    have hsz1 : UU.size .int = 1 := rfl
    rw [hsz1, Nat.mul_one] at q6
    have hcl : cells.length = l.length := by rw [hro.1, hsz1, Nat.mul_one]
    have hcells : cells = l.map (Value.int .i64) := by
     refine List.ext_getElem (by simp [hcl]) fun i h1 h2 => ?_
     have hi : i < l.length := by omega
     have := hcs i hi 0 (by show 0 < 1; omega)
     rw [hsz1, Nat.mul_one, Nat.add_zero] at this
     have h9 : Rel EE w ρ st (.int .i64 l[i]) (cells.getD i undef) := this
     rw [List.getD_eq_getElem?_getD, List.getElem?_eq_getElem h1, Option.getD_some] at h9
     generalize hcv : cells[i] = cv at h9
     cases h9
     simp
    obtain ⟨hH0, hcp⟩ : Holds (Value.int .i64) w b 0 l.toArray ∧ l.length ≤ cap := by
     refine ⟨?_, q3⟩
     intro j hj
     have hj' : j < l.length := by simpa using hj
     refine ⟨?_, by simp [World.frozen?, q2]⟩
     have h6 : (cur.toList.take l.length)[j]? = some (.int .i64 l[j]) := by
      rw [q6, hcells]
      simp [hj']
     rw [List.getElem?_take, if_pos hj'] at h6
     rw [Nat.zero_add, cell_of_row w b j cur _ (0, 0) q2, ← Array.getElem?_toList, h6]
     simp [hj']
    refine (places_some b cap l w h2 hH0 hbl hcp).mono ?_
    rintro e w' ⟨rfl, n1, os, q, rfl⟩
    have hle := srtC_len l
    have hro' : w.ownsRow w0.heap.size 3 1 (.slice (some ⟨b, 0, none⟩) l.length cap) l.length (l.map (Value.int .i64)) := by
     rw [← hcells]
     exact hro
    have s1 := Go.Lib.ownsRow_putRow (q := n1) (k := l.length) (ys := l.mergeSort fun x y => decide (x ≤ y)) hro' (List.length_mergeSort ..) (Nat.le_refl _)
    have s2 := ownsRow_grow (os := os) s1
    have s3 := Go.Lib.ownsRow_putRow (q := q) (k := (srtC l).length) (ys := srtC l ++ List.replicate (l.length - (srtC l).length) 0) s2 (by simp; omega) hle
    rw [List.take_left] at s3
    refine fin _ _ [] s3 (fun a e => by cases e) (fun b' hb' => hb') ?_ (fun b' hb' hne => ?_)
    ·exact Go.Lib.below_putRow (below_grow_ (Go.Lib.below_putRow (Go.RowKit.Below.refl _ _) q1) (by simp; omega)) q1
    ·have hne' : b ≠ b' := fun e => hne (by rw [e]; rfl)
     simp only [putRow, mapBlock, Sort.ahead]
     rw [Array.getElem?_modify, if_neg hne']
     rw [heap_grow_old _ _ (by simpa using hb')]
     rw [Array.getElem?_modify, if_neg hne']
 ·cases hm
def C_ps : Cfg UU := C_zb.addEff 126 ePlaces
theorem s_ps : SumOK C_ps := s_zb.putEff fun w0 _ => eff_places rfl rfl w0
def inlS (f : FuncId) : Option (Func × Code) := cond (Nat.beq f 69) (some (Tryz.f69, bo Tryz.f69)) (cond (Nat.beq f 70) (some (Tryz.f70, bo Tryz.f70)) (cond (Nat.beq f 129) (some (Tryz.f129, bo Tryz.f129)) (cond (Nat.beq f 169) (some (Tryz.f169, bo Tryz.f169))
 (cond (Nat.beq f 72) (some (Tryz.f72, bo Tryz.f72)) (cond (Nat.beq f 73) (some (Tryz.f73, bo Tryz.f73)) (cond (Nat.beq f 74) (some (Tryz.f74, bo Tryz.f74)) none))))))
theorem cond_two {α : Type} {b : Bool} {x y : Option α} {z : α} (h : cond b x y = some z) : (b = true ∧ x = some z) ∨ y = some z := by
 cases b
 ·exact .inr h
 ·exact .inl ⟨rfl, h⟩
theorem inlS_ok (f : FuncId) (fn : Func) (c : Code) (h : inlS f = some (fn, c)) : Tryz.prog.funcs[f]? = some fn ∧ fn.body = some c ∧ ∀ (args : Array Value) (w : World), (callFunc f args).run Tryz.prog w = .ok (.enter f args) w := by
 unfold inlS at h
 have one : ∀ {k : Nat} {fk : Func}, Tryz.prog.funcs[k]? = some fk → fk.body = some (bo fk) → (∀ args w, (callFunc k args).run Tryz.prog w = .ok (.enter k args) w) → Nat.beq f k = true → some (fk, bo fk) = some (fn, c) →
   Tryz.prog.funcs[f]? = some fn ∧ fn.body = some c ∧ ∀ (args : Array Value) (w : World), (callFunc f args).run Tryz.prog w = .ok (.enter f args) w := fun h1 h2 h3 hb he => by
  obtain rfl := Nat.eq_of_beq_eq_true hb
  cases he
  exact ⟨h1, h2, h3⟩
 rcases cond_two h with ⟨hb, h⟩ | h
 ·exact one Tryz.func69 (by kernel_rfl) (callFunc_run (fn := Tryz.f69) Tryz.func69 (by kernel_rfl) rfl) hb h
 rcases cond_two h with ⟨hb, h⟩ | h
 ·exact one Tryz.func70 (by kernel_rfl) (callFunc_run (fn := Tryz.f70) Tryz.func70 (by kernel_rfl) rfl) hb h
 rcases cond_two h with ⟨hb, h⟩ | h
 ·exact one Tryz.func129 (by kernel_rfl) (callFunc_run (fn := Tryz.f129) Tryz.func129 (by kernel_rfl) rfl) hb h
 rcases cond_two h with ⟨hb, h⟩ | h
 ·exact one Tryz.func169 (by kernel_rfl) (callFunc_run (fn := Tryz.f169) Tryz.func169 (by kernel_rfl) rfl) hb h
 rcases cond_two h with ⟨hb, h⟩ | h
 ·exact one Tryz.func72 (by kernel_rfl) (callFunc_run (fn := Tryz.f72) Tryz.func72 (by kernel_rfl) rfl) hb h
 rcases cond_two h with ⟨hb, h⟩ | h
 ·exact one Tryz.func73 (by kernel_rfl) (callFunc_run (fn := Tryz.f73) Tryz.func73 (by kernel_rfl) rfl) hb h
 rcases cond_two h with ⟨hb, h⟩ | h
 ·exact one Tryz.func74 (by kernel_rfl) (callFunc_run (fn := Tryz.f74) Tryz.func74 (by kernel_rfl) rfl) hb h
 ·cases h
def inl3 (C : Cfg UU) (hP : C.P = Tryz.prog := by rfl) : Cfg UU := { C with inl := inlS, inlOK := fun f fn c h => by rw [hP]; exact inlS_ok f fn c h, dep := 3 }
theorem addI3 {C : Cfg UU} (hP : C.P = Tryz.prog) (hs : SumOK C) (hmix : C.P.follows .mixedOrders = true) {f : FuncId} {m : Model UU} {fn : Func} {c : Code} (hf : C.P.funcs[f]? = some fn) (hn : (fn.name == "runtime.NumGoroutine") = false)
  (hb : fn.body = some c) (hx : ∀ xs cs r, m xs = some (cs, r) → conj cs → (Nat.ble xs.length fn.ntmps && Nat.ble fn.ntmps 1000000) = true ∧ ∃ M fuel fr, Done (exec (inl3 C hP).asDeep fn.ntmps M fuel 0 c (initSt xs) (AEnds (inl3 C hP).asDeep fr fn fun r' => r' = r))) : SumOK (C.add f m) := by
 have hs' : SumOK (inl3 C hP) := hs
 have := SumOK.addDeepD (C := inl3 C hP) hs' hmix hf hn hb hx
 exact this
set_option maxRecDepth 100000
def b_zh_0 (F n r : Nat) (S : ASt UU) (K : AEx → ASt UU → Prop) : Prop := iter (execG (inliner M_zh F 3 (inl3 C_ps).asDeep) (inl3 C_ps).asDeep Tryz.f25.ntmps M_zh F 0 (cL (cB (cS (cF (cS (cS (cS (bo Tryz.f25))))))))) (M_zh 0 0) n r S K
def b_zh_1 (F n r : Nat) (S : ASt UU) (K : AEx → ASt UU → Prop) : Prop := iter (execG (inliner M_zh F 2 ((inl3 C_ps).asDeep.at 34000)) ((inl3 C_ps).asDeep.at 34000) Tryz.f69.ntmps M_zh F 0 (cL (cB (cS (cF (cS (cS (bo Tryz.f69)))))))) (M_zh 34000 0) n r S K
def b_zh_2 (F n r : Nat) (S : ASt UU) (K : AEx → ASt UU → Prop) : Prop := iter (execG (inliner M_zh F 2 ((inl3 C_ps).asDeep.at 34000)) ((inl3 C_ps).asDeep.at 34000) Tryz.f69.ntmps M_zh F 2 (cL (cB (cS (cF (cS (cS (cS (cS (cS (bo Tryz.f69))))))))))) (M_zh 34000 2) n r S K
def b_zh_3 (F n r : Nat) (S : ASt UU) (K : AEx → ASt UU → Prop) : Prop := iter (execG (inliner M_zh F 2 ((inl3 C_ps).asDeep.at 34000)) ((inl3 C_ps).asDeep.at 34000) Tryz.f69.ntmps M_zh F 4 (cL (cB (cS (cF (cS (cS (cS (cS (cS (cS (bo Tryz.f69)))))))))))) (M_zh 34000 4) n r S K
def b_zh_4 (F n r : Nat) (S : ASt UU) (K : AEx → ASt UU → Prop) : Prop := iter (execG (inliner M_zh F 2 ((inl3 C_ps).asDeep.at 34000)) ((inl3 C_ps).asDeep.at 34000) Tryz.f69.ntmps M_zh F 6 (cL (cB (cF (cS (cS (cS (cB (cF (cS (cS (cL (cB (cS (cF (cS (cS (cS (cS (cS (cS (bo Tryz.f69)))))))))))))))))))))) (M_zh 34000 6) n r S K
def b_zh_5 (F n r : Nat) (S : ASt UU) (K : AEx → ASt UU → Prop) : Prop := iter (execG (inliner M_zh F 2 ((inl3 C_ps).asDeep.at 40000)) ((inl3 C_ps).asDeep.at 40000) Tryz.f70.ntmps M_zh F 0 (cL (cB (cS (cF (cS (cS (bo Tryz.f70)))))))) (M_zh 40000 0) n r S K
def b_zh_6 (F n r : Nat) (S : ASt UU) (K : AEx → ASt UU → Prop) : Prop := iter (execG (inliner M_zh F 2 ((inl3 C_ps).asDeep.at 34000)) ((inl3 C_ps).asDeep.at 34000) Tryz.f69.ntmps M_zh F 8 (cL (cB (cS (cS (cS (cS (cB (cF (cS (cS (cL (cB (cS (cF (cS (cS (cS (cS (cS (cS (bo Tryz.f69)))))))))))))))))))))) (M_zh 34000 8) n r S K
def b_zh_7 (F n r : Nat) (S : ASt UU) (K : AEx → ASt UU → Prop) : Prop := iter (execG (inliner M_zh F 2 ((inl3 C_ps).asDeep.at 40000)) ((inl3 C_ps).asDeep.at 40000) Tryz.f70.ntmps M_zh F 2 (cL (cB (cS (cS (cB (cF (cS (cS (cL (cB (cS (cF (cS (cS (bo Tryz.f70)))))))))))))))) (M_zh 40000 2) n r S K
def b_zh_8 (F n r : Nat) (S : ASt UU) (K : AEx → ASt UU → Prop) : Prop := iter (execG (inliner M_zh F 1 (((inl3 C_ps).asDeep.at 40000).at 40042000)) (((inl3 C_ps).asDeep.at 40000).at 40042000) Tryz.f129.ntmps M_zh F 0 (cL (cB (cS (cS (cS (bo Tryz.f129))))))) (M_zh 40042000 0) n r S K
def k_zh_0 (F : Nat) (Post : AVal UU → Prop) : AEx → ASt UU → Prop := kBlock 0 (kSeq (inliner M_zh F 3 (inl3 C_ps).asDeep) (inl3 C_ps).asDeep Tryz.f25.ntmps M_zh F 0 (cS (cS (cS (cS (bo Tryz.f25))))) (AEnds (inl3 C_ps).asDeep true Tryz.f25 Post))
def k_zh_1 (F : Nat) (Post : AVal UU → Prop) : AEx → ASt UU → Prop := kBlock 0 (kSeq (inliner M_zh F 2 ((inl3 C_ps).asDeep.at 34000)) ((inl3 C_ps).asDeep.at 34000) Tryz.f69.ntmps M_zh F 0 (cS (cS (cS (bo Tryz.f69)))) (kInl (inliner M_zh F 3 (inl3 C_ps).asDeep) (inl3 C_ps).asDeep Tryz.f25.ntmps (cR (cF (cS (cS (cS (cS (bo Tryz.f25))))))) 8 3 Tryz.f69 (some 33) (fun s9 => (kSeq (inliner M_zh F 3 (inl3 C_ps).asDeep) (inl3 C_ps).asDeep Tryz.f25.ntmps M_zh F 0 (cS (cS (cS (cS (cS (bo Tryz.f25)))))) (AEnds (inl3 C_ps).asDeep true Tryz.f25 Post)) .normal s9)))
def k_zh_2 (F : Nat) (Post : AVal UU → Prop) : AEx → ASt UU → Prop := kBlock 2 (kSeq (inliner M_zh F 2 ((inl3 C_ps).asDeep.at 34000)) ((inl3 C_ps).asDeep.at 34000) Tryz.f69.ntmps M_zh F 0 (cS (cS (cS (cS (cS (cS (bo Tryz.f69))))))) (kInl (inliner M_zh F 3 (inl3 C_ps).asDeep) (inl3 C_ps).asDeep Tryz.f25.ntmps (cR (cF (cS (cS (cS (cS (bo Tryz.f25))))))) 8 3 Tryz.f69 (some 33) (fun s9 => (kSeq (inliner M_zh F 3 (inl3 C_ps).asDeep) (inl3 C_ps).asDeep Tryz.f25.ntmps M_zh F 0 (cS (cS (cS (cS (cS (bo Tryz.f25)))))) (AEnds (inl3 C_ps).asDeep true Tryz.f25 Post)) .normal s9)))
def k_zh_3 (F : Nat) (Post : AVal UU → Prop) : AEx → ASt UU → Prop := kBlock 4 (kSeq (inliner M_zh F 2 ((inl3 C_ps).asDeep.at 34000)) ((inl3 C_ps).asDeep.at 34000) Tryz.f69.ntmps M_zh F 0 (cS (cS (cS (cS (cS (cS (cS (bo Tryz.f69)))))))) (kInl (inliner M_zh F 3 (inl3 C_ps).asDeep) (inl3 C_ps).asDeep Tryz.f25.ntmps (cR (cF (cS (cS (cS (cS (bo Tryz.f25))))))) 8 3 Tryz.f69 (some 33) (fun s9 => (kSeq (inliner M_zh F 3 (inl3 C_ps).asDeep) (inl3 C_ps).asDeep Tryz.f25.ntmps M_zh F 0 (cS (cS (cS (cS (cS (bo Tryz.f25)))))) (AEnds (inl3 C_ps).asDeep true Tryz.f25 Post)) .normal s9)))
def k_zh_4 (F n r : Nat) (K : AEx → ASt UU → Prop) : AEx → ASt UU → Prop := kBlock 6 (kSeq (inliner M_zh F 2 ((inl3 C_ps).asDeep.at 34000)) ((inl3 C_ps).asDeep.at 34000) Tryz.f69.ntmps M_zh F 5 (cS (cS (cS (cS (cB (cF (cS (cS (cL (cB (cS (cF (cS (cS (cS (cS (cS (cS (bo Tryz.f69))))))))))))))))))) (kBlock 5 (kSeq (inliner M_zh F 2 ((inl3 C_ps).asDeep.at 34000)) ((inl3 C_ps).asDeep.at 34000) Tryz.f69.ntmps M_zh F 4 (cS (cS (cS (cL (cB (cS (cF (cS (cS (cS (cS (cS (cS (bo Tryz.f69)))))))))))))) (kIter (execG (inliner M_zh F 2 ((inl3 C_ps).asDeep.at 34000)) ((inl3 C_ps).asDeep.at 34000) Tryz.f69.ntmps M_zh F 4 (cL (cB (cS (cF (cS (cS (cS (cS (cS (cS (bo Tryz.f69)))))))))))) (M_zh 34000 4) n r K))))
def k_zh_5 (F : Nat) (Post : AVal UU → Prop) : AEx → ASt UU → Prop := kBlock 0 (kSeq (inliner M_zh F 2 ((inl3 C_ps).asDeep.at 40000)) ((inl3 C_ps).asDeep.at 40000) Tryz.f70.ntmps M_zh F 0 (cS (cS (cS (bo Tryz.f70)))) (kInl (inliner M_zh F 3 (inl3 C_ps).asDeep) (inl3 C_ps).asDeep Tryz.f25.ntmps (cR (cF (cS (cS (cS (cS (cS (cS (bo Tryz.f25))))))))) 4 2 Tryz.f70 (some 39) (fun s9 => (kSeq (inliner M_zh F 3 (inl3 C_ps).asDeep) (inl3 C_ps).asDeep Tryz.f25.ntmps M_zh F 0 (cS (cS (cS (cS (cS (cS (cS (bo Tryz.f25)))))))) (AEnds (inl3 C_ps).asDeep true Tryz.f25 Post)) .normal s9)))
def k_zh_6 (F n r : Nat) (K : AEx → ASt UU → Prop) : AEx → ASt UU → Prop := kBlock 8 (kBlock 5 (kSeq (inliner M_zh F 2 ((inl3 C_ps).asDeep.at 34000)) ((inl3 C_ps).asDeep.at 34000) Tryz.f69.ntmps M_zh F 4 (cS (cS (cS (cL (cB (cS (cF (cS (cS (cS (cS (cS (cS (bo Tryz.f69)))))))))))))) (kIter (execG (inliner M_zh F 2 ((inl3 C_ps).asDeep.at 34000)) ((inl3 C_ps).asDeep.at 34000) Tryz.f69.ntmps M_zh F 4 (cL (cB (cS (cF (cS (cS (cS (cS (cS (cS (bo Tryz.f69)))))))))))) (M_zh 34000 4) n r K)))
def k_zh_7 (F n r : Nat) (K : AEx → ASt UU → Prop) : AEx → ASt UU → Prop := kBlock 2 (kBlock 1 (kSeq (inliner M_zh F 2 ((inl3 C_ps).asDeep.at 40000)) ((inl3 C_ps).asDeep.at 40000) Tryz.f70.ntmps M_zh F 0 (cS (cS (cS (cL (cB (cS (cF (cS (cS (bo Tryz.f70)))))))))) (kIter (execG (inliner M_zh F 2 ((inl3 C_ps).asDeep.at 40000)) ((inl3 C_ps).asDeep.at 40000) Tryz.f70.ntmps M_zh F 0 (cL (cB (cS (cF (cS (cS (bo Tryz.f70)))))))) (M_zh 40000 0) n r K)))
def k_zh_8 (F n r : Nat) (K : AEx → ASt UU → Prop) : AEx → ASt UU → Prop := kBlock 0 (kInl (inliner M_zh F 2 ((inl3 C_ps).asDeep.at 40000)) ((inl3 C_ps).asDeep.at 40000) Tryz.f70.ntmps (cR (cF (cT (cS (cF (cS (cB (cF (cS (cS (cL (cB (cS (cS (cB (cF (cS (cS (cL (cB (cS (cF (cS (cS (bo Tryz.f70))))))))))))))))))))))))) 6 6 Tryz.f129 (some 41) (fun s9 => (kSeq (inliner M_zh F 2 ((inl3 C_ps).asDeep.at 40000)) ((inl3 C_ps).asDeep.at 40000) Tryz.f70.ntmps M_zh F 3 (cS (cT (cS (cF (cS (cB (cF (cS (cS (cL (cB (cS (cS (cB (cF (cS (cS (cL (cB (cS (cF (cS (cS (bo Tryz.f70)))))))))))))))))))))))) (kSeq (inliner M_zh F 2 ((inl3 C_ps).asDeep.at 40000)) ((inl3 C_ps).asDeep.at 40000) Tryz.f70.ntmps M_zh F 3 (cS (cS (cB (cF (cS (cS (cL (cB (cS (cS (cB (cF (cS (cS (cL (cB (cS (cF (cS (cS (bo Tryz.f70))))))))))))))))))))) (kBlock 3 (kSeq (inliner M_zh F 2 ((inl3 C_ps).asDeep.at 40000)) ((inl3 C_ps).asDeep.at 40000) Tryz.f70.ntmps M_zh F 2 (cS (cS (cS (cL (cB (cS (cS (cB (cF (cS (cS (cL (cB (cS (cF (cS (cS (bo Tryz.f70)))))))))))))))))) (kIter (execG (inliner M_zh F 2 ((inl3 C_ps).asDeep.at 40000)) ((inl3 C_ps).asDeep.at 40000) Tryz.f70.ntmps M_zh F 2 (cL (cB (cS (cS (cB (cF (cS (cS (cL (cB (cS (cF (cS (cS (bo Tryz.f70)))))))))))))))) (M_zh 40000 2) n r K))))) .normal s9))
theorem step_zh_0 (F n r : Nat) (K : AEx → ASt UU → Prop) (t1 : List Seg) (t5 : Int) (t19 : List Seg) (t20 t21 : Int) (c2_0 c2_1 : ByteArray) (c2_2 c2_3 c2_4 c2_5 : Int) (c2_6 c2_7 : List Rect) : b_zh_0 F (n + 1) r (st_zh_0 t1 t5 t19 t20 t21 c2_0 c2_1 c2_2 c2_3 c2_4 c2_5 c2_6 c2_7) K = g_zh_s0 (fun t1 t5 t19 t20 t21 c2_0 c2_1 c2_2 c2_3 c2_4 c2_5 c2_6 c2_7 => b_zh_0 F n (r + 1) (st_zh_0 t1 t5 t19 t20 t21 c2_0 c2_1 c2_2 c2_3 c2_4 c2_5 c2_6 c2_7) K) (fun t1 t5 t19 t20 t21 c2_0 c2_1 c2_2 c2_3 c2_4 c2_5 c2_6 c2_7 => K .ret (st_zh_0 t1 t5 t19 t20 t21 c2_0 c2_1 c2_2 c2_3 c2_4 c2_5 c2_6 c2_7)) (fun t1 t5 t19 t20 t21 c2_0 c2_1 c2_2 c2_3 c2_4 c2_5 c2_6 c2_7 => K (.exit 0) (st_zh_0 t1 t5 t19 t20 t21 c2_0 c2_1 c2_2 c2_3 c2_4 c2_5 c2_6 c2_7)) t1 t5 t19 t20 t21 c2_0 c2_1 c2_2 c2_3 c2_4 c2_5 c2_6 c2_7 := by kernel_rfl
theorem cont_zh_0_0 (F : Nat) (Post : AVal UU → Prop) (t1 : List Seg) (t5 : Int) (t19 : List Seg) (t20 t21 : Int) (c2_0 c2_1 : ByteArray) (c2_2 c2_3 c2_4 c2_5 : Int) (c2_6 c2_7 : List Rect) : k_zh_0 F Post .ret (st_zh_0 t1 t5 t19 t20 t21 c2_0 c2_1 c2_2 c2_3 c2_4 c2_5 c2_6 c2_7) = g_zh_c0_0 (fun r0 r1 => Post (.tup [.newd .rects r0, .int .i64 r1])) t1 t5 t19 t20 t21 c2_0 c2_1 c2_2 c2_3 c2_4 c2_5 c2_6 c2_7 := by kernel_rfl
theorem cont_zh_0_1 (F : Nat) (Post : AVal UU → Prop) (t1 : List Seg) (t5 : Int) (t19 : List Seg) (t20 t21 : Int) (c2_0 c2_1 : ByteArray) (c2_2 c2_3 c2_4 c2_5 : Int) (c2_6 c2_7 : List Rect) : k_zh_0 F Post (.exit 0) (st_zh_0 t1 t5 t19 t20 t21 c2_0 c2_1 c2_2 c2_3 c2_4 c2_5 c2_6 c2_7) = g_zh_c0_1 (fun r0 r1 => Post (.tup [.newd .rects r0, .int .i64 r1])) t1 t5 t19 t20 t21 c2_0 c2_1 c2_2 c2_3 c2_4 c2_5 c2_6 c2_7 (fun t1 t23 t24 t25 qbj qbk => b_zh_1 F F 0 (st_zh_1 t1 t23 t24 t25 qbj qbk) (k_zh_1 F Post)) := by kernel_rfl
theorem step_zh_1 (F n r : Nat) (K : AEx → ASt UU → Prop) (t1 t23 : List Seg) (t24 t25 : Int) (qbj qbk : zzI) : b_zh_1 F (n + 1) r (st_zh_1 t1 t23 t24 t25 qbj qbk) K = g_zh_s1 (fun t1 t23 t24 t25 qbj qbk => b_zh_1 F n (r + 1) (st_zh_1 t1 t23 t24 t25 qbj qbk) K) (fun t1 t23 t24 t25 qbj qbk => K (.exit 0) (st_zh_1 t1 t23 t24 t25 qbj qbk)) t1 t23 t24 t25 qbj qbk := by kernel_rfl
theorem cont_zh_1_0 (F : Nat) (Post : AVal UU → Prop) (t1 t23 : List Seg) (t24 t25 : Int) (qbj qbk : zzI) : k_zh_1 F Post (.exit 0) (st_zh_1 t1 t23 t24 t25 qbj qbk) = g_zh_c1_0 (fun r0 r1 => Post (.tup [.newd .rects r0, .int .i64 r1])) t1 t23 t24 t25 qbj qbk (fun t1 t68 t69 qbj qbk qbl qbm qbn => b_zh_2 F F 0 (st_zh_2 t1 t68 t69 qbj qbk qbl qbm qbn) (k_zh_2 F Post)) := by kernel_rfl
theorem step_zh_2 (F n r : Nat) (K : AEx → ASt UU → Prop) (t1 : List Seg) (t68 t69 : Int) (qbj qbk : zzI) (qbl qbm : zzB) (qbn : zzZ) : b_zh_2 F (n + 1) r (st_zh_2 t1 t68 t69 qbj qbk qbl qbm qbn) K = g_zh_s2 (fun t1 t68 t69 qbj qbk qbl qbm qbn => b_zh_2 F n (r + 1) (st_zh_2 t1 t68 t69 qbj qbk qbl qbm qbn) K) (fun t1 t68 t69 qbj qbk qbl qbm qbn => K (.exit 2) (st_zh_2 t1 t68 t69 qbj qbk qbl qbm qbn)) t1 t68 t69 qbj qbk qbl qbm qbn := by kernel_rfl
theorem cont_zh_2_0 (F : Nat) (Post : AVal UU → Prop) (t1 : List Seg) (t68 t69 : Int) (qbj qbk : zzI) (qbl qbm : zzB) (qbn : zzZ) : k_zh_2 F Post (.exit 2) (st_zh_2 t1 t68 t69 qbj qbk qbl qbm qbn) = g_zh_c2_0 (fun r0 r1 => Post (.tup [.newd .rects r0, .int .i64 r1])) t1 t68 t69 qbj qbk qbl qbm qbn (fun t118 t119 t120 qbj qbk qbl qbm qbn => b_zh_3 F F 0 (st_zh_3 t118 t119 t120 qbj qbk qbl qbm qbn) (k_zh_3 F Post)) := by kernel_rfl
theorem step_zh_3 (F n r : Nat) (K : AEx → ASt UU → Prop) (t118 : List Seg) (t119 t120 : Int) (qbj qbk : zzI) (qbl qbm : zzB) (qbn : zzZ) : b_zh_3 F (n + 1) r (st_zh_3 t118 t119 t120 qbj qbk qbl qbm qbn) K = g_zh_s3 (fun t118 t119 t120 qbj qbk qbl qbm qbn => b_zh_3 F n (r + 1) (st_zh_3 t118 t119 t120 qbj qbk qbl qbm qbn) K) (fun t118 t119 t120 qbj qbk qbl qbm qbn => K (.exit 4) (st_zh_3 t118 t119 t120 qbj qbk qbl qbm qbn)) t118 t119 t120 qbj qbk qbl qbm qbn (fun t13 t15 t118 t119 t120 qas qat qau qav qbj qbk qbl qbm qbn => b_zh_4 F F 0 (st_zh_4 t13 t15 t118 t119 t120 qas qat qau qav qbj qbk qbl qbm qbn) (k_zh_4 F n r K)) := by kernel_rfl
theorem cont_zh_3_0 (F : Nat) (Post : AVal UU → Prop) (t118 : List Seg) (t119 t120 : Int) (qbj qbk : zzI) (qbl qbm : zzB) (qbn : zzZ) : k_zh_3 F Post (.exit 4) (st_zh_3 t118 t119 t120 qbj qbk qbl qbm qbn) = g_zh_c3_0 (fun r0 r1 => Post (.tup [.newd .rects r0, .int .i64 r1])) t118 t119 t120 qbj qbk qbl qbm qbn (fun t12 t13 qbv qbw qbx qby qbz qca => b_zh_5 F F 0 (st_zh_5 t12 t13 qbv qbw qbx qby qbz qca) (k_zh_5 F Post)) := by kernel_rfl
theorem step_zh_4 (F n r : Nat) (K : AEx → ASt UU → Prop) (t13 t15 : Int) (t118 : List Seg) (t119 t120 qas qat qau qav : Int) (qbj qbk : zzI) (qbl qbm : zzB) (qbn : zzZ) : b_zh_4 F (n + 1) r (st_zh_4 t13 t15 t118 t119 t120 qas qat qau qav qbj qbk qbl qbm qbn) K = g_zh_s4 (fun t13 t15 t118 t119 t120 qas qat qau qav qbj qbk qbl qbm qbn => b_zh_4 F n (r + 1) (st_zh_4 t13 t15 t118 t119 t120 qas qat qau qav qbj qbk qbl qbm qbn) K) (fun t13 t15 t118 t119 t120 qas qat qau qav qbj qbk qbl qbm qbn => K (.exit 6) (st_zh_4 t13 t15 t118 t119 t120 qas qat qau qav qbj qbk qbl qbm qbn)) t13 t15 t118 t119 t120 qas qat qau qav qbj qbk qbl qbm qbn := by kernel_rfl
theorem cont_zh_4_0 (F n r : Nat) (K : AEx → ASt UU → Prop) (t13 t15 : Int) (t118 : List Seg) (t119 t120 qas qat qau qav : Int) (qbj qbk : zzI) (qbl qbm : zzB) (qbn : zzZ) : k_zh_4 F n r K (.exit 6) (st_zh_4 t13 t15 t118 t119 t120 qas qat qau qav qbj qbk qbl qbm qbn) = g_zh_c4_0 (fun t118 t119 t120 qbj qbk qbl qbm qbn => b_zh_3 F n (r + 1) (st_zh_3 t118 t119 t120 qbj qbk qbl qbm qbn) K) (fun t118 t119 t120 qbj qbk qbl qbm qbn => K (.exit 4) (st_zh_3 t118 t119 t120 qbj qbk qbl qbm qbn)) t13 t15 t118 t119 t120 qas qat qau qav qbj qbk qbl qbm qbn (fun t13 t15 t118 t119 t120 qas qat qau qav qbj qbk qbl qbm qbn => b_zh_6 F F 0 (st_zh_6 t13 t15 t118 t119 t120 qas qat qau qav qbj qbk qbl qbm qbn) (k_zh_6 F n r K)) := by kernel_rfl
theorem step_zh_5 (F n r : Nat) (K : AEx → ASt UU → Prop) (t12 t13 : Int) (qbv qbw : zzI) (qbx qby : zzB) (qbz : zzZ) (qca : List (List Rect)) : b_zh_5 F (n + 1) r (st_zh_5 t12 t13 qbv qbw qbx qby qbz qca) K = g_zh_s5 (fun t12 t13 qbv qbw qbx qby qbz qca => b_zh_5 F n (r + 1) (st_zh_5 t12 t13 qbv qbw qbx qby qbz qca) K) (fun t12 t13 qbv qbw qbx qby qbz qca => K (.exit 0) (st_zh_5 t12 t13 qbv qbw qbx qby qbz qca)) t12 t13 qbv qbw qbx qby qbz qca (fun t4 t12 t13 t21 t22 qbv qbw qbx qby qbz qca => b_zh_7 F F 0 (st_zh_7 t4 t12 t13 t21 t22 qbv qbw qbx qby qbz qca) (k_zh_7 F n r K)) := by kernel_rfl
theorem cont_zh_5_0 (F : Nat) (Post : AVal UU → Prop) (t12 t13 : Int) (qbv qbw : zzI) (qbx qby : zzB) (qbz : zzZ) (qca : List (List Rect)) : k_zh_5 F Post (.exit 0) (st_zh_5 t12 t13 qbv qbw qbx qby qbz qca) = g_zh_c5_0 (fun r0 r1 => Post (.tup [.newd .rects r0, .int .i64 r1])) t12 t13 qbv qbw qbx qby qbz qca := by kernel_rfl
theorem step_zh_6 (F n r : Nat) (K : AEx → ASt UU → Prop) (t13 t15 : Int) (t118 : List Seg) (t119 t120 qas qat qau qav : Int) (qbj qbk : zzI) (qbl qbm : zzB) (qbn : zzZ) : b_zh_6 F (n + 1) r (st_zh_6 t13 t15 t118 t119 t120 qas qat qau qav qbj qbk qbl qbm qbn) K = g_zh_s6 (fun t13 t15 t118 t119 t120 qas qat qau qav qbj qbk qbl qbm qbn => b_zh_6 F n (r + 1) (st_zh_6 t13 t15 t118 t119 t120 qas qat qau qav qbj qbk qbl qbm qbn) K) (fun t13 t15 t118 t119 t120 qas qat qau qav qbj qbk qbl qbm qbn => K (.exit 8) (st_zh_6 t13 t15 t118 t119 t120 qas qat qau qav qbj qbk qbl qbm qbn)) t13 t15 t118 t119 t120 qas qat qau qav qbj qbk qbl qbm qbn := by kernel_rfl
theorem cont_zh_6_0 (F n r : Nat) (K : AEx → ASt UU → Prop) (t13 t15 : Int) (t118 : List Seg) (t119 t120 qas qat qau qav : Int) (qbj qbk : zzI) (qbl qbm : zzB) (qbn : zzZ) : k_zh_6 F n r K (.exit 8) (st_zh_6 t13 t15 t118 t119 t120 qas qat qau qav qbj qbk qbl qbm qbn) = g_zh_c6_0 (fun t118 t119 t120 qbj qbk qbl qbm qbn => b_zh_3 F n (r + 1) (st_zh_3 t118 t119 t120 qbj qbk qbl qbm qbn) K) (fun t118 t119 t120 qbj qbk qbl qbm qbn => K (.exit 4) (st_zh_3 t118 t119 t120 qbj qbk qbl qbm qbn)) t13 t15 t118 t119 t120 qas qat qau qav qbj qbk qbl qbm qbn := by kernel_rfl
theorem step_zh_7 (F n r : Nat) (K : AEx → ASt UU → Prop) (t4 t12 t13 t21 t22 : Int) (qbv qbw : zzI) (qbx qby : zzB) (qbz : zzZ) (qca : List (List Rect)) : b_zh_7 F (n + 1) r (st_zh_7 t4 t12 t13 t21 t22 qbv qbw qbx qby qbz qca) K = g_zh_s7 (fun t4 t12 t13 t21 t22 qbv qbw qbx qby qbz qca => b_zh_7 F n (r + 1) (st_zh_7 t4 t12 t13 t21 t22 qbv qbw qbx qby qbz qca) K) (fun t4 t12 t13 t21 t22 qbv qbw qbx qby qbz qca => K (.exit 2) (st_zh_7 t4 t12 t13 t21 t22 qbv qbw qbx qby qbz qca)) t4 t12 t13 t21 t22 qbv qbw qbx qby qbz qca (fun qcf qcg qch qci qcj qck qaw qbo qbp qbq qbr qbs qbt qbu => b_zh_8 F F 0 (st_zh_8 qcf qcg qch qci qcj qck qaw qbo qbp qbq qbr qbs qbt qbu) (k_zh_8 F n r K)) := by kernel_rfl
theorem cont_zh_7_0 (F n r : Nat) (K : AEx → ASt UU → Prop) (t4 t12 t13 t21 t22 : Int) (qbv qbw : zzI) (qbx qby : zzB) (qbz : zzZ) (qca : List (List Rect)) : k_zh_7 F n r K (.exit 2) (st_zh_7 t4 t12 t13 t21 t22 qbv qbw qbx qby qbz qca) = g_zh_c7_0 (fun t12 t13 qbv qbw qbx qby qbz qca => b_zh_5 F n (r + 1) (st_zh_5 t12 t13 qbv qbw qbx qby qbz qca) K) (fun t12 t13 qbv qbw qbx qby qbz qca => K (.exit 0) (st_zh_5 t12 t13 qbv qbw qbx qby qbz qca)) t4 t12 t13 t21 t22 qbv qbw qbx qby qbz qca := by kernel_rfl
theorem step_zh_8 (F n r : Nat) (K : AEx → ASt UU → Prop) (qcf qcg qch qci qcj qck qaw : Int) (qbo qbp : zzI) (qbq qbr : zzB) (qbs : zzZ) (qbt : List Par) (qbu : List (List Rect)) : b_zh_8 F (n + 1) r (st_zh_8 qcf qcg qch qci qcj qck qaw qbo qbp qbq qbr qbs qbt qbu) K = g_zh_s8 (fun qcf qcg qch qci qcj qck qaw qbo qbp qbq qbr qbs qbt qbu => b_zh_8 F n (r + 1) (st_zh_8 qcf qcg qch qci qcj qck qaw qbo qbp qbq qbr qbs qbt qbu) K) (fun qcf qcg qch qci qcj qck qaw qbo qbp qbq qbr qbs qbt qbu => K (.exit 0) (st_zh_8 qcf qcg qch qci qcj qck qaw qbo qbp qbq qbr qbs qbt qbu)) qcf qcg qch qci qcj qck qaw qbo qbp qbq qbr qbs qbt qbu := by kernel_rfl
theorem cont_zh_8_0 (F n r : Nat) (K : AEx → ASt UU → Prop) (qcf qcg qch qci qcj qck qaw : Int) (qbo qbp : zzI) (qbq qbr : zzB) (qbs : zzZ) (qbt : List Par) (qbu : List (List Rect)) : k_zh_8 F n r K (.exit 0) (st_zh_8 qcf qcg qch qci qcj qck qaw qbo qbp qbq qbr qbs qbt qbu) = g_zh_c8_0 (fun t4 t12 t13 t21 t22 qbv qbw qbx qby qbz qca => b_zh_7 F n (r + 1) (st_zh_7 t4 t12 t13 t21 t22 qbv qbw qbx qby qbz qca) K) (fun t4 t12 t13 t21 t22 qbv qbw qbx qby qbz qca => K (.exit 2) (st_zh_7 t4 t12 t13 t21 t22 qbv qbw qbx qby qbz qca)) qcf qcg qch qci qcj qck qaw qbo qbp qbq qbr qbs qbt qbu := by kernel_rfl
theorem entry_zh (F : Nat) (Post : AVal UU → Prop) (qe qf : ByteArray) (qg qh qa qb : Int) (qc qd : List Rect) (a1 : List Seg) : exec (inl3 C_ps).asDeep Tryz.f25.ntmps M_zh F 0 (bo Tryz.f25) (initSt [.agg [.str qe, .str qf, .int .i64 qg, .int .i64 qh, .int .i64 qa, .int .i64 qb, .sl .rect qc, .sl .rect qd], .sl .seg a1]) (AEnds (inl3 C_ps).asDeep true Tryz.f25 Post) = g_zh_e qe qf qg qh qa qb qc qd a1 (fun r0 r1 => Post (.tup [.newd .rects r0, .int .i64 r1])) (fun t1 t5 t19 t20 t21 c2_0 c2_1 c2_2 c2_3 c2_4 c2_5 c2_6 c2_7 => b_zh_0 F F 0 (st_zh_0 t1 t5 t19 t20 t21 c2_0 c2_1 c2_2 c2_3 c2_4 c2_5 c2_6 c2_7) (k_zh_0 F Post)) := by kernel_rfl
theorem loop_zh_6 (F : Nat) (K : AEx → ASt UU → Prop) : ∀ (n r : Nat) (t13 t15 : Int) (t118 : List Seg) (t119 t120 qas qat qau qav : Int) (qbj qbk : zzI) (qbl qbm : zzB) (qbn : zzZ), b_zh_6 F n r (st_zh_6 t13 t15 t118 t119 t120 qas qat qau qav qbj qbk qbl qbm qbn) K = w_zh_6 F  (fun t13 t15 t118 t119 t120 qas qat qau qav qbj qbk qbl qbm qbn => K (.exit 8) (st_zh_6 t13 t15 t118 t119 t120 qas qat qau qav qbj qbk qbl qbm qbn)) n t13 t15 t118 t119 t120 qas qat qau qav qbj qbk qbl qbm qbn := by
 intro n
 induction n with
 | zero => intros; rfl
 | succ n ih =>
  intro r t13 t15 t118 t119 t120 qas qat qau qav qbj qbk qbl qbm qbn
  have e : (fun t13 t15 t118 t119 t120 qas qat qau qav qbj qbk qbl qbm qbn => b_zh_6 F n (r + 1) (st_zh_6 t13 t15 t118 t119 t120 qas qat qau qav qbj qbk qbl qbm qbn) K) = w_zh_6 F  (fun t13 t15 t118 t119 t120 qas qat qau qav qbj qbk qbl qbm qbn => K (.exit 8) (st_zh_6 t13 t15 t118 t119 t120 qas qat qau qav qbj qbk qbl qbm qbn)) n := by
   funext t13 t15 t118 t119 t120 qas qat qau qav qbj qbk qbl qbm qbn
   exact ih (r + 1) t13 t15 t118 t119 t120 qas qat qau qav qbj qbk qbl qbm qbn
  rw [step_zh_6, e]
  rfl
theorem nl_zh_6 (F n r : Nat) (K : AEx → ASt UU → Prop) (t13 t15 : Int) (t118 : List Seg) (t119 t120 qas qat qau qav : Int) (qbj qbk : zzI) (qbl qbm : zzB) (qbn : zzZ) : b_zh_6 F F 0 (st_zh_6 t13 t15 t118 t119 t120 qas qat qau qav qbj qbk qbl qbm qbn) (k_zh_6 F n r K) = n_zh_6 F (fun t118 t119 t120 qbj qbk qbl qbm qbn => b_zh_3 F n (r + 1) (st_zh_3 t118 t119 t120 qbj qbk qbl qbm qbn) K) (fun t118 t119 t120 qbj qbk qbl qbm qbn => K (.exit 4) (st_zh_3 t118 t119 t120 qbj qbk qbl qbm qbn)) t13 t15 t118 t119 t120 qas qat qau qav qbj qbk qbl qbm qbn := by
 rw [loop_zh_6]
 have h0 : (fun t13 t15 t118 t119 t120 qas qat qau qav qbj qbk qbl qbm qbn => k_zh_6 F n r K (.exit 8) (st_zh_6 t13 t15 t118 t119 t120 qas qat qau qav qbj qbk qbl qbm qbn)) = (fun t13 t15 t118 t119 t120 qas qat qau qav qbj qbk qbl qbm qbn => g_zh_c6_0 (fun t118 t119 t120 qbj qbk qbl qbm qbn => b_zh_3 F n (r + 1) (st_zh_3 t118 t119 t120 qbj qbk qbl qbm qbn) K) (fun t118 t119 t120 qbj qbk qbl qbm qbn => K (.exit 4) (st_zh_3 t118 t119 t120 qbj qbk qbl qbm qbn)) t13 t15 t118 t119 t120 qas qat qau qav qbj qbk qbl qbm qbn) := by
  funext t13 t15 t118 t119 t120 qas qat qau qav qbj qbk qbl qbm qbn
  rw [cont_zh_6_0]
 rw [h0]
 rfl
theorem loop_zh_4 (F : Nat) (K : AEx → ASt UU → Prop) : ∀ (n r : Nat) (t13 t15 : Int) (t118 : List Seg) (t119 t120 qas qat qau qav : Int) (qbj qbk : zzI) (qbl qbm : zzB) (qbn : zzZ), b_zh_4 F n r (st_zh_4 t13 t15 t118 t119 t120 qas qat qau qav qbj qbk qbl qbm qbn) K = w_zh_4 F  (fun t13 t15 t118 t119 t120 qas qat qau qav qbj qbk qbl qbm qbn => K (.exit 6) (st_zh_4 t13 t15 t118 t119 t120 qas qat qau qav qbj qbk qbl qbm qbn)) n t13 t15 t118 t119 t120 qas qat qau qav qbj qbk qbl qbm qbn := by
 intro n
 induction n with
 | zero => intros; rfl
 | succ n ih =>
  intro r t13 t15 t118 t119 t120 qas qat qau qav qbj qbk qbl qbm qbn
  have e : (fun t13 t15 t118 t119 t120 qas qat qau qav qbj qbk qbl qbm qbn => b_zh_4 F n (r + 1) (st_zh_4 t13 t15 t118 t119 t120 qas qat qau qav qbj qbk qbl qbm qbn) K) = w_zh_4 F  (fun t13 t15 t118 t119 t120 qas qat qau qav qbj qbk qbl qbm qbn => K (.exit 6) (st_zh_4 t13 t15 t118 t119 t120 qas qat qau qav qbj qbk qbl qbm qbn)) n := by
   funext t13 t15 t118 t119 t120 qas qat qau qav qbj qbk qbl qbm qbn
   exact ih (r + 1) t13 t15 t118 t119 t120 qas qat qau qav qbj qbk qbl qbm qbn
  rw [step_zh_4, e]
  rfl
theorem nl_zh_4 (F n r : Nat) (K : AEx → ASt UU → Prop) (t13 t15 : Int) (t118 : List Seg) (t119 t120 qas qat qau qav : Int) (qbj qbk : zzI) (qbl qbm : zzB) (qbn : zzZ) : b_zh_4 F F 0 (st_zh_4 t13 t15 t118 t119 t120 qas qat qau qav qbj qbk qbl qbm qbn) (k_zh_4 F n r K) = n_zh_4 F (fun t118 t119 t120 qbj qbk qbl qbm qbn => b_zh_3 F n (r + 1) (st_zh_3 t118 t119 t120 qbj qbk qbl qbm qbn) K) (fun t118 t119 t120 qbj qbk qbl qbm qbn => K (.exit 4) (st_zh_3 t118 t119 t120 qbj qbk qbl qbm qbn)) t13 t15 t118 t119 t120 qas qat qau qav qbj qbk qbl qbm qbn := by
 rw [loop_zh_4]
 have e6 : (fun t13 t15 t118 t119 t120 qas qat qau qav qbj qbk qbl qbm qbn => b_zh_6 F F 0 (st_zh_6 t13 t15 t118 t119 t120 qas qat qau qav qbj qbk qbl qbm qbn) (k_zh_6 F n r K)) = (n_zh_6 F (fun t118 t119 t120 qbj qbk qbl qbm qbn => b_zh_3 F n (r + 1) (st_zh_3 t118 t119 t120 qbj qbk qbl qbm qbn) K) (fun t118 t119 t120 qbj qbk qbl qbm qbn => K (.exit 4) (st_zh_3 t118 t119 t120 qbj qbk qbl qbm qbn))) := by
  funext t13 t15 t118 t119 t120 qas qat qau qav qbj qbk qbl qbm qbn
  exact nl_zh_6 F n r K t13 t15 t118 t119 t120 qas qat qau qav qbj qbk qbl qbm qbn
 have h0 : (fun t13 t15 t118 t119 t120 qas qat qau qav qbj qbk qbl qbm qbn => k_zh_4 F n r K (.exit 6) (st_zh_4 t13 t15 t118 t119 t120 qas qat qau qav qbj qbk qbl qbm qbn)) = (fun t13 t15 t118 t119 t120 qas qat qau qav qbj qbk qbl qbm qbn => g_zh_c4_0 (fun t118 t119 t120 qbj qbk qbl qbm qbn => b_zh_3 F n (r + 1) (st_zh_3 t118 t119 t120 qbj qbk qbl qbm qbn) K) (fun t118 t119 t120 qbj qbk qbl qbm qbn => K (.exit 4) (st_zh_3 t118 t119 t120 qbj qbk qbl qbm qbn)) t13 t15 t118 t119 t120 qas qat qau qav qbj qbk qbl qbm qbn (n_zh_6 F (fun t118 t119 t120 qbj qbk qbl qbm qbn => b_zh_3 F n (r + 1) (st_zh_3 t118 t119 t120 qbj qbk qbl qbm qbn) K) (fun t118 t119 t120 qbj qbk qbl qbm qbn => K (.exit 4) (st_zh_3 t118 t119 t120 qbj qbk qbl qbm qbn)))) := by
  funext t13 t15 t118 t119 t120 qas qat qau qav qbj qbk qbl qbm qbn
  rw [cont_zh_4_0, e6]
 rw [h0]
 rfl
theorem loop_zh_8 (F : Nat) (K : AEx → ASt UU → Prop) : ∀ (n r : Nat) (qcf qcg qch qci qcj qck qaw : Int) (qbo qbp : zzI) (qbq qbr : zzB) (qbs : zzZ) (qbt : List Par) (qbu : List (List Rect)), b_zh_8 F n r (st_zh_8 qcf qcg qch qci qcj qck qaw qbo qbp qbq qbr qbs qbt qbu) K = w_zh_8 F  (fun qcf qcg qch qci qcj qck qaw qbo qbp qbq qbr qbs qbt qbu => K (.exit 0) (st_zh_8 qcf qcg qch qci qcj qck qaw qbo qbp qbq qbr qbs qbt qbu)) n qcf qcg qch qci qcj qck qaw qbo qbp qbq qbr qbs qbt qbu := by
 intro n
 induction n with
 | zero => intros; rfl
 | succ n ih =>
  intro r qcf qcg qch qci qcj qck qaw qbo qbp qbq qbr qbs qbt qbu
  have e : (fun qcf qcg qch qci qcj qck qaw qbo qbp qbq qbr qbs qbt qbu => b_zh_8 F n (r + 1) (st_zh_8 qcf qcg qch qci qcj qck qaw qbo qbp qbq qbr qbs qbt qbu) K) = w_zh_8 F  (fun qcf qcg qch qci qcj qck qaw qbo qbp qbq qbr qbs qbt qbu => K (.exit 0) (st_zh_8 qcf qcg qch qci qcj qck qaw qbo qbp qbq qbr qbs qbt qbu)) n := by
   funext qcf qcg qch qci qcj qck qaw qbo qbp qbq qbr qbs qbt qbu
   exact ih (r + 1) qcf qcg qch qci qcj qck qaw qbo qbp qbq qbr qbs qbt qbu
  rw [step_zh_8, e]
  rfl
theorem nl_zh_8 (F n r : Nat) (K : AEx → ASt UU → Prop) (qcf qcg qch qci qcj qck qaw : Int) (qbo qbp : zzI) (qbq qbr : zzB) (qbs : zzZ) (qbt : List Par) (qbu : List (List Rect)) : b_zh_8 F F 0 (st_zh_8 qcf qcg qch qci qcj qck qaw qbo qbp qbq qbr qbs qbt qbu) (k_zh_8 F n r K) = n_zh_8 F (fun t4 t12 t13 t21 t22 qbv qbw qbx qby qbz qca => b_zh_7 F n (r + 1) (st_zh_7 t4 t12 t13 t21 t22 qbv qbw qbx qby qbz qca) K) (fun t4 t12 t13 t21 t22 qbv qbw qbx qby qbz qca => K (.exit 2) (st_zh_7 t4 t12 t13 t21 t22 qbv qbw qbx qby qbz qca)) qcf qcg qch qci qcj qck qaw qbo qbp qbq qbr qbs qbt qbu := by
 rw [loop_zh_8]
 have h0 : (fun qcf qcg qch qci qcj qck qaw qbo qbp qbq qbr qbs qbt qbu => k_zh_8 F n r K (.exit 0) (st_zh_8 qcf qcg qch qci qcj qck qaw qbo qbp qbq qbr qbs qbt qbu)) = (fun qcf qcg qch qci qcj qck qaw qbo qbp qbq qbr qbs qbt qbu => g_zh_c8_0 (fun t4 t12 t13 t21 t22 qbv qbw qbx qby qbz qca => b_zh_7 F n (r + 1) (st_zh_7 t4 t12 t13 t21 t22 qbv qbw qbx qby qbz qca) K) (fun t4 t12 t13 t21 t22 qbv qbw qbx qby qbz qca => K (.exit 2) (st_zh_7 t4 t12 t13 t21 t22 qbv qbw qbx qby qbz qca)) qcf qcg qch qci qcj qck qaw qbo qbp qbq qbr qbs qbt qbu) := by
  funext qcf qcg qch qci qcj qck qaw qbo qbp qbq qbr qbs qbt qbu
  rw [cont_zh_8_0]
 rw [h0]
 rfl
theorem loop_zh_7 (F : Nat) (K : AEx → ASt UU → Prop) : ∀ (n r : Nat) (t4 t12 t13 t21 t22 : Int) (qbv qbw : zzI) (qbx qby : zzB) (qbz : zzZ) (qca : List (List Rect)), b_zh_7 F n r (st_zh_7 t4 t12 t13 t21 t22 qbv qbw qbx qby qbz qca) K = w_zh_7 F  (fun t4 t12 t13 t21 t22 qbv qbw qbx qby qbz qca => K (.exit 2) (st_zh_7 t4 t12 t13 t21 t22 qbv qbw qbx qby qbz qca)) n t4 t12 t13 t21 t22 qbv qbw qbx qby qbz qca := by
 intro n
 induction n with
 | zero => intros; rfl
 | succ n ih =>
  intro r t4 t12 t13 t21 t22 qbv qbw qbx qby qbz qca
  have e : (fun t4 t12 t13 t21 t22 qbv qbw qbx qby qbz qca => b_zh_7 F n (r + 1) (st_zh_7 t4 t12 t13 t21 t22 qbv qbw qbx qby qbz qca) K) = w_zh_7 F  (fun t4 t12 t13 t21 t22 qbv qbw qbx qby qbz qca => K (.exit 2) (st_zh_7 t4 t12 t13 t21 t22 qbv qbw qbx qby qbz qca)) n := by
   funext t4 t12 t13 t21 t22 qbv qbw qbx qby qbz qca
   exact ih (r + 1) t4 t12 t13 t21 t22 qbv qbw qbx qby qbz qca
  have e8 : (fun qcf qcg qch qci qcj qck qaw qbo qbp qbq qbr qbs qbt qbu => b_zh_8 F F 0 (st_zh_8 qcf qcg qch qci qcj qck qaw qbo qbp qbq qbr qbs qbt qbu) (k_zh_8 F n r K)) = (n_zh_8 F (fun t4 t12 t13 t21 t22 qbv qbw qbx qby qbz qca => b_zh_7 F n (r + 1) (st_zh_7 t4 t12 t13 t21 t22 qbv qbw qbx qby qbz qca) K) (fun t4 t12 t13 t21 t22 qbv qbw qbx qby qbz qca => K (.exit 2) (st_zh_7 t4 t12 t13 t21 t22 qbv qbw qbx qby qbz qca))) := by
   funext qcf qcg qch qci qcj qck qaw qbo qbp qbq qbr qbs qbt qbu
   exact nl_zh_8 F n r K qcf qcg qch qci qcj qck qaw qbo qbp qbq qbr qbs qbt qbu
  rw [step_zh_7, e8, e]
  rfl
theorem nl_zh_7 (F n r : Nat) (K : AEx → ASt UU → Prop) (t4 t12 t13 t21 t22 : Int) (qbv qbw : zzI) (qbx qby : zzB) (qbz : zzZ) (qca : List (List Rect)) : b_zh_7 F F 0 (st_zh_7 t4 t12 t13 t21 t22 qbv qbw qbx qby qbz qca) (k_zh_7 F n r K) = n_zh_7 F (fun t12 t13 qbv qbw qbx qby qbz qca => b_zh_5 F n (r + 1) (st_zh_5 t12 t13 qbv qbw qbx qby qbz qca) K) (fun t12 t13 qbv qbw qbx qby qbz qca => K (.exit 0) (st_zh_5 t12 t13 qbv qbw qbx qby qbz qca)) t4 t12 t13 t21 t22 qbv qbw qbx qby qbz qca := by
 rw [loop_zh_7]
 have h0 : (fun t4 t12 t13 t21 t22 qbv qbw qbx qby qbz qca => k_zh_7 F n r K (.exit 2) (st_zh_7 t4 t12 t13 t21 t22 qbv qbw qbx qby qbz qca)) = (fun t4 t12 t13 t21 t22 qbv qbw qbx qby qbz qca => g_zh_c7_0 (fun t12 t13 qbv qbw qbx qby qbz qca => b_zh_5 F n (r + 1) (st_zh_5 t12 t13 qbv qbw qbx qby qbz qca) K) (fun t12 t13 qbv qbw qbx qby qbz qca => K (.exit 0) (st_zh_5 t12 t13 qbv qbw qbx qby qbz qca)) t4 t12 t13 t21 t22 qbv qbw qbx qby qbz qca) := by
  funext t4 t12 t13 t21 t22 qbv qbw qbx qby qbz qca
  rw [cont_zh_7_0]
 rw [h0]
 rfl
theorem loop_zh_5 (F : Nat) (K : AEx → ASt UU → Prop) : ∀ (n r : Nat) (t12 t13 : Int) (qbv qbw : zzI) (qbx qby : zzB) (qbz : zzZ) (qca : List (List Rect)), b_zh_5 F n r (st_zh_5 t12 t13 qbv qbw qbx qby qbz qca) K = w_zh_5 F  (fun t12 t13 qbv qbw qbx qby qbz qca => K (.exit 0) (st_zh_5 t12 t13 qbv qbw qbx qby qbz qca)) n t12 t13 qbv qbw qbx qby qbz qca := by
 intro n
 induction n with
 | zero => intros; rfl
 | succ n ih =>
  intro r t12 t13 qbv qbw qbx qby qbz qca
  have e : (fun t12 t13 qbv qbw qbx qby qbz qca => b_zh_5 F n (r + 1) (st_zh_5 t12 t13 qbv qbw qbx qby qbz qca) K) = w_zh_5 F  (fun t12 t13 qbv qbw qbx qby qbz qca => K (.exit 0) (st_zh_5 t12 t13 qbv qbw qbx qby qbz qca)) n := by
   funext t12 t13 qbv qbw qbx qby qbz qca
   exact ih (r + 1) t12 t13 qbv qbw qbx qby qbz qca
  have e7 : (fun t4 t12 t13 t21 t22 qbv qbw qbx qby qbz qca => b_zh_7 F F 0 (st_zh_7 t4 t12 t13 t21 t22 qbv qbw qbx qby qbz qca) (k_zh_7 F n r K)) = (n_zh_7 F (fun t12 t13 qbv qbw qbx qby qbz qca => b_zh_5 F n (r + 1) (st_zh_5 t12 t13 qbv qbw qbx qby qbz qca) K) (fun t12 t13 qbv qbw qbx qby qbz qca => K (.exit 0) (st_zh_5 t12 t13 qbv qbw qbx qby qbz qca))) := by
   funext t4 t12 t13 t21 t22 qbv qbw qbx qby qbz qca
   exact nl_zh_7 F n r K t4 t12 t13 t21 t22 qbv qbw qbx qby qbz qca
  rw [step_zh_5, e7, e]
  rfl
theorem nl_zh_5 (F : Nat) (Post : AVal UU → Prop) (t12 t13 : Int) (qbv qbw : zzI) (qbx qby : zzB) (qbz : zzZ) (qca : List (List Rect)) : b_zh_5 F F 0 (st_zh_5 t12 t13 qbv qbw qbx qby qbz qca) (k_zh_5 F Post) = n_zh_5 F (fun r0 r1 => Post (.tup [.newd .rects r0, .int .i64 r1])) t12 t13 qbv qbw qbx qby qbz qca := by
 rw [loop_zh_5]
 have h0 : (fun t12 t13 qbv qbw qbx qby qbz qca => k_zh_5 F Post (.exit 0) (st_zh_5 t12 t13 qbv qbw qbx qby qbz qca)) = (fun t12 t13 qbv qbw qbx qby qbz qca => g_zh_c5_0 (fun r0 r1 => Post (.tup [.newd .rects r0, .int .i64 r1])) t12 t13 qbv qbw qbx qby qbz qca) := by
  funext t12 t13 qbv qbw qbx qby qbz qca
  rw [cont_zh_5_0]
 rw [h0]
 rfl
theorem loop_zh_3 (F : Nat) (K : AEx → ASt UU → Prop) : ∀ (n r : Nat) (t118 : List Seg) (t119 t120 : Int) (qbj qbk : zzI) (qbl qbm : zzB) (qbn : zzZ), b_zh_3 F n r (st_zh_3 t118 t119 t120 qbj qbk qbl qbm qbn) K = w_zh_3 F  (fun t118 t119 t120 qbj qbk qbl qbm qbn => K (.exit 4) (st_zh_3 t118 t119 t120 qbj qbk qbl qbm qbn)) n t118 t119 t120 qbj qbk qbl qbm qbn := by
 intro n
 induction n with
 | zero => intros; rfl
 | succ n ih =>
  intro r t118 t119 t120 qbj qbk qbl qbm qbn
  have e : (fun t118 t119 t120 qbj qbk qbl qbm qbn => b_zh_3 F n (r + 1) (st_zh_3 t118 t119 t120 qbj qbk qbl qbm qbn) K) = w_zh_3 F  (fun t118 t119 t120 qbj qbk qbl qbm qbn => K (.exit 4) (st_zh_3 t118 t119 t120 qbj qbk qbl qbm qbn)) n := by
   funext t118 t119 t120 qbj qbk qbl qbm qbn
   exact ih (r + 1) t118 t119 t120 qbj qbk qbl qbm qbn
  have e4 : (fun t13 t15 t118 t119 t120 qas qat qau qav qbj qbk qbl qbm qbn => b_zh_4 F F 0 (st_zh_4 t13 t15 t118 t119 t120 qas qat qau qav qbj qbk qbl qbm qbn) (k_zh_4 F n r K)) = (n_zh_4 F (fun t118 t119 t120 qbj qbk qbl qbm qbn => b_zh_3 F n (r + 1) (st_zh_3 t118 t119 t120 qbj qbk qbl qbm qbn) K) (fun t118 t119 t120 qbj qbk qbl qbm qbn => K (.exit 4) (st_zh_3 t118 t119 t120 qbj qbk qbl qbm qbn))) := by
   funext t13 t15 t118 t119 t120 qas qat qau qav qbj qbk qbl qbm qbn
   exact nl_zh_4 F n r K t13 t15 t118 t119 t120 qas qat qau qav qbj qbk qbl qbm qbn
  rw [step_zh_3, e4, e]
  rfl
theorem nl_zh_3 (F : Nat) (Post : AVal UU → Prop) (t118 : List Seg) (t119 t120 : Int) (qbj qbk : zzI) (qbl qbm : zzB) (qbn : zzZ) : b_zh_3 F F 0 (st_zh_3 t118 t119 t120 qbj qbk qbl qbm qbn) (k_zh_3 F Post) = n_zh_3 F (fun r0 r1 => Post (.tup [.newd .rects r0, .int .i64 r1])) t118 t119 t120 qbj qbk qbl qbm qbn := by
 rw [loop_zh_3]
 have e5 : (fun t12 t13 qbv qbw qbx qby qbz qca => b_zh_5 F F 0 (st_zh_5 t12 t13 qbv qbw qbx qby qbz qca) (k_zh_5 F Post)) = (n_zh_5 F (fun r0 r1 => Post (.tup [.newd .rects r0, .int .i64 r1]))) := by
  funext t12 t13 qbv qbw qbx qby qbz qca
  exact nl_zh_5 F Post t12 t13 qbv qbw qbx qby qbz qca
 have h0 : (fun t118 t119 t120 qbj qbk qbl qbm qbn => k_zh_3 F Post (.exit 4) (st_zh_3 t118 t119 t120 qbj qbk qbl qbm qbn)) = (fun t118 t119 t120 qbj qbk qbl qbm qbn => g_zh_c3_0 (fun r0 r1 => Post (.tup [.newd .rects r0, .int .i64 r1])) t118 t119 t120 qbj qbk qbl qbm qbn (n_zh_5 F (fun r0 r1 => Post (.tup [.newd .rects r0, .int .i64 r1])))) := by
  funext t118 t119 t120 qbj qbk qbl qbm qbn
  rw [cont_zh_3_0, e5]
 rw [h0]
 rfl
theorem loop_zh_2 (F : Nat) (K : AEx → ASt UU → Prop) : ∀ (n r : Nat) (t1 : List Seg) (t68 t69 : Int) (qbj qbk : zzI) (qbl qbm : zzB) (qbn : zzZ), b_zh_2 F n r (st_zh_2 t1 t68 t69 qbj qbk qbl qbm qbn) K = w_zh_2 F  (fun t1 t68 t69 qbj qbk qbl qbm qbn => K (.exit 2) (st_zh_2 t1 t68 t69 qbj qbk qbl qbm qbn)) n t1 t68 t69 qbj qbk qbl qbm qbn := by
 intro n
 induction n with
 | zero => intros; rfl
 | succ n ih =>
  intro r t1 t68 t69 qbj qbk qbl qbm qbn
  have e : (fun t1 t68 t69 qbj qbk qbl qbm qbn => b_zh_2 F n (r + 1) (st_zh_2 t1 t68 t69 qbj qbk qbl qbm qbn) K) = w_zh_2 F  (fun t1 t68 t69 qbj qbk qbl qbm qbn => K (.exit 2) (st_zh_2 t1 t68 t69 qbj qbk qbl qbm qbn)) n := by
   funext t1 t68 t69 qbj qbk qbl qbm qbn
   exact ih (r + 1) t1 t68 t69 qbj qbk qbl qbm qbn
  rw [step_zh_2, e]
  rfl
theorem nl_zh_2 (F : Nat) (Post : AVal UU → Prop) (t1 : List Seg) (t68 t69 : Int) (qbj qbk : zzI) (qbl qbm : zzB) (qbn : zzZ) : b_zh_2 F F 0 (st_zh_2 t1 t68 t69 qbj qbk qbl qbm qbn) (k_zh_2 F Post) = n_zh_2 F (fun r0 r1 => Post (.tup [.newd .rects r0, .int .i64 r1])) t1 t68 t69 qbj qbk qbl qbm qbn := by
 rw [loop_zh_2]
 have e3 : (fun t118 t119 t120 qbj qbk qbl qbm qbn => b_zh_3 F F 0 (st_zh_3 t118 t119 t120 qbj qbk qbl qbm qbn) (k_zh_3 F Post)) = (n_zh_3 F (fun r0 r1 => Post (.tup [.newd .rects r0, .int .i64 r1]))) := by
  funext t118 t119 t120 qbj qbk qbl qbm qbn
  exact nl_zh_3 F Post t118 t119 t120 qbj qbk qbl qbm qbn
 have h0 : (fun t1 t68 t69 qbj qbk qbl qbm qbn => k_zh_2 F Post (.exit 2) (st_zh_2 t1 t68 t69 qbj qbk qbl qbm qbn)) = (fun t1 t68 t69 qbj qbk qbl qbm qbn => g_zh_c2_0 (fun r0 r1 => Post (.tup [.newd .rects r0, .int .i64 r1])) t1 t68 t69 qbj qbk qbl qbm qbn (n_zh_3 F (fun r0 r1 => Post (.tup [.newd .rects r0, .int .i64 r1])))) := by
  funext t1 t68 t69 qbj qbk qbl qbm qbn
  rw [cont_zh_2_0, e3]
 rw [h0]
 rfl
theorem loop_zh_1 (F : Nat) (K : AEx → ASt UU → Prop) : ∀ (n r : Nat) (t1 t23 : List Seg) (t24 t25 : Int) (qbj qbk : zzI), b_zh_1 F n r (st_zh_1 t1 t23 t24 t25 qbj qbk) K = w_zh_1 F  (fun t1 t23 t24 t25 qbj qbk => K (.exit 0) (st_zh_1 t1 t23 t24 t25 qbj qbk)) n t1 t23 t24 t25 qbj qbk := by
 intro n
 induction n with
 | zero => intros; rfl
 | succ n ih =>
  intro r t1 t23 t24 t25 qbj qbk
  have e : (fun t1 t23 t24 t25 qbj qbk => b_zh_1 F n (r + 1) (st_zh_1 t1 t23 t24 t25 qbj qbk) K) = w_zh_1 F  (fun t1 t23 t24 t25 qbj qbk => K (.exit 0) (st_zh_1 t1 t23 t24 t25 qbj qbk)) n := by
   funext t1 t23 t24 t25 qbj qbk
   exact ih (r + 1) t1 t23 t24 t25 qbj qbk
  rw [step_zh_1, e]
  rfl
theorem nl_zh_1 (F : Nat) (Post : AVal UU → Prop) (t1 t23 : List Seg) (t24 t25 : Int) (qbj qbk : zzI) : b_zh_1 F F 0 (st_zh_1 t1 t23 t24 t25 qbj qbk) (k_zh_1 F Post) = n_zh_1 F (fun r0 r1 => Post (.tup [.newd .rects r0, .int .i64 r1])) t1 t23 t24 t25 qbj qbk := by
 rw [loop_zh_1]
 have e2 : (fun t1 t68 t69 qbj qbk qbl qbm qbn => b_zh_2 F F 0 (st_zh_2 t1 t68 t69 qbj qbk qbl qbm qbn) (k_zh_2 F Post)) = (n_zh_2 F (fun r0 r1 => Post (.tup [.newd .rects r0, .int .i64 r1]))) := by
  funext t1 t68 t69 qbj qbk qbl qbm qbn
  exact nl_zh_2 F Post t1 t68 t69 qbj qbk qbl qbm qbn
 have h0 : (fun t1 t23 t24 t25 qbj qbk => k_zh_1 F Post (.exit 0) (st_zh_1 t1 t23 t24 t25 qbj qbk)) = (fun t1 t23 t24 t25 qbj qbk => g_zh_c1_0 (fun r0 r1 => Post (.tup [.newd .rects r0, .int .i64 r1])) t1 t23 t24 t25 qbj qbk (n_zh_2 F (fun r0 r1 => Post (.tup [.newd .rects r0, .int .i64 r1])))) := by
  funext t1 t23 t24 t25 qbj qbk
  rw [cont_zh_1_0, e2]
 rw [h0]
 rfl
theorem loop_zh_0 (F : Nat) (K : AEx → ASt UU → Prop) : ∀ (n r : Nat) (t1 : List Seg) (t5 : Int) (t19 : List Seg) (t20 t21 : Int) (c2_0 c2_1 : ByteArray) (c2_2 c2_3 c2_4 c2_5 : Int) (c2_6 c2_7 : List Rect), b_zh_0 F n r (st_zh_0 t1 t5 t19 t20 t21 c2_0 c2_1 c2_2 c2_3 c2_4 c2_5 c2_6 c2_7) K = w_zh_0 F  (fun t1 t5 t19 t20 t21 c2_0 c2_1 c2_2 c2_3 c2_4 c2_5 c2_6 c2_7 => K .ret (st_zh_0 t1 t5 t19 t20 t21 c2_0 c2_1 c2_2 c2_3 c2_4 c2_5 c2_6 c2_7)) (fun t1 t5 t19 t20 t21 c2_0 c2_1 c2_2 c2_3 c2_4 c2_5 c2_6 c2_7 => K (.exit 0) (st_zh_0 t1 t5 t19 t20 t21 c2_0 c2_1 c2_2 c2_3 c2_4 c2_5 c2_6 c2_7)) n t1 t5 t19 t20 t21 c2_0 c2_1 c2_2 c2_3 c2_4 c2_5 c2_6 c2_7 := by
 intro n
 induction n with
 | zero => intros; rfl
 | succ n ih =>
  intro r t1 t5 t19 t20 t21 c2_0 c2_1 c2_2 c2_3 c2_4 c2_5 c2_6 c2_7
  have e : (fun t1 t5 t19 t20 t21 c2_0 c2_1 c2_2 c2_3 c2_4 c2_5 c2_6 c2_7 => b_zh_0 F n (r + 1) (st_zh_0 t1 t5 t19 t20 t21 c2_0 c2_1 c2_2 c2_3 c2_4 c2_5 c2_6 c2_7) K) = w_zh_0 F  (fun t1 t5 t19 t20 t21 c2_0 c2_1 c2_2 c2_3 c2_4 c2_5 c2_6 c2_7 => K .ret (st_zh_0 t1 t5 t19 t20 t21 c2_0 c2_1 c2_2 c2_3 c2_4 c2_5 c2_6 c2_7)) (fun t1 t5 t19 t20 t21 c2_0 c2_1 c2_2 c2_3 c2_4 c2_5 c2_6 c2_7 => K (.exit 0) (st_zh_0 t1 t5 t19 t20 t21 c2_0 c2_1 c2_2 c2_3 c2_4 c2_5 c2_6 c2_7)) n := by
   funext t1 t5 t19 t20 t21 c2_0 c2_1 c2_2 c2_3 c2_4 c2_5 c2_6 c2_7
   exact ih (r + 1) t1 t5 t19 t20 t21 c2_0 c2_1 c2_2 c2_3 c2_4 c2_5 c2_6 c2_7
  rw [step_zh_0, e]
  rfl
theorem nl_zh_0 (F : Nat) (Post : AVal UU → Prop) (t1 : List Seg) (t5 : Int) (t19 : List Seg) (t20 t21 : Int) (c2_0 c2_1 : ByteArray) (c2_2 c2_3 c2_4 c2_5 : Int) (c2_6 c2_7 : List Rect) : b_zh_0 F F 0 (st_zh_0 t1 t5 t19 t20 t21 c2_0 c2_1 c2_2 c2_3 c2_4 c2_5 c2_6 c2_7) (k_zh_0 F Post) = n_zh_0 F (fun r0 r1 => Post (.tup [.newd .rects r0, .int .i64 r1])) t1 t5 t19 t20 t21 c2_0 c2_1 c2_2 c2_3 c2_4 c2_5 c2_6 c2_7 := by
 rw [loop_zh_0]
 have e1 : (fun t1 t23 t24 t25 qbj qbk => b_zh_1 F F 0 (st_zh_1 t1 t23 t24 t25 qbj qbk) (k_zh_1 F Post)) = (n_zh_1 F (fun r0 r1 => Post (.tup [.newd .rects r0, .int .i64 r1]))) := by
  funext t1 t23 t24 t25 qbj qbk
  exact nl_zh_1 F Post t1 t23 t24 t25 qbj qbk
 have h0 : (fun t1 t5 t19 t20 t21 c2_0 c2_1 c2_2 c2_3 c2_4 c2_5 c2_6 c2_7 => k_zh_0 F Post .ret (st_zh_0 t1 t5 t19 t20 t21 c2_0 c2_1 c2_2 c2_3 c2_4 c2_5 c2_6 c2_7)) = (fun t1 t5 t19 t20 t21 c2_0 c2_1 c2_2 c2_3 c2_4 c2_5 c2_6 c2_7 => g_zh_c0_0 (fun r0 r1 => Post (.tup [.newd .rects r0, .int .i64 r1])) t1 t5 t19 t20 t21 c2_0 c2_1 c2_2 c2_3 c2_4 c2_5 c2_6 c2_7) := by
  funext t1 t5 t19 t20 t21 c2_0 c2_1 c2_2 c2_3 c2_4 c2_5 c2_6 c2_7
  rw [cont_zh_0_0]
 have h1 : (fun t1 t5 t19 t20 t21 c2_0 c2_1 c2_2 c2_3 c2_4 c2_5 c2_6 c2_7 => k_zh_0 F Post (.exit 0) (st_zh_0 t1 t5 t19 t20 t21 c2_0 c2_1 c2_2 c2_3 c2_4 c2_5 c2_6 c2_7)) = (fun t1 t5 t19 t20 t21 c2_0 c2_1 c2_2 c2_3 c2_4 c2_5 c2_6 c2_7 => g_zh_c0_1 (fun r0 r1 => Post (.tup [.newd .rects r0, .int .i64 r1])) t1 t5 t19 t20 t21 c2_0 c2_1 c2_2 c2_3 c2_4 c2_5 c2_6 c2_7 (n_zh_1 F (fun r0 r1 => Post (.tup [.newd .rects r0, .int .i64 r1])))) := by
  funext t1 t5 t19 t20 t21 c2_0 c2_1 c2_2 c2_3 c2_4 c2_5 c2_6 c2_7
  rw [cont_zh_0_1, e1]
 rw [h0, h1]
 rfl
theorem exec_zh (F : Nat) (Post : AVal UU → Prop) (qe qf : ByteArray) (qg qh qa qb : Int) (qc qd : List Rect) (a1 : List Seg) : exec (inl3 C_ps).asDeep Tryz.f25.ntmps M_zh F 0 (bo Tryz.f25) (initSt [.agg [.str qe, .str qf, .int .i64 qg, .int .i64 qh, .int .i64 qa, .int .i64 qb, .sl .rect qc, .sl .rect qd], .sl .seg a1]) (AEnds (inl3 C_ps).asDeep true Tryz.f25 Post) = w_zh F qe qf qg qh qa qb qc qd a1 (fun r0 r1 => Post (.tup [.newd .rects r0, .int .i64 r1])) := by
 rw [entry_zh]
 have e0 : (fun t1 t5 t19 t20 t21 c2_0 c2_1 c2_2 c2_3 c2_4 c2_5 c2_6 c2_7 => b_zh_0 F F 0 (st_zh_0 t1 t5 t19 t20 t21 c2_0 c2_1 c2_2 c2_3 c2_4 c2_5 c2_6 c2_7) (k_zh_0 F Post)) = (n_zh_0 F (fun r0 r1 => Post (.tup [.newd .rects r0, .int .i64 r1]))) := by
  funext t1 t5 t19 t20 t21 c2_0 c2_1 c2_2 c2_3 c2_4 c2_5 c2_6 c2_7
  exact nl_zh_0 F Post t1 t5 t19 t20 t21 c2_0 c2_1 c2_2 c2_3 c2_4 c2_5 c2_6 c2_7
 rw [e0]
 rfl
def m_zh : Model UU
 | [.agg [.str qe, .str qf, .int .i64 qg, .int .i64 qh, .int .i64 qa, .int .i64 qb, .sl .rect qc, .sl .rect qd], .sl .seg a1] => some ([pre_zh qe qf qg qh qa qb qc qd a1], .tup [.newd .rects ((sp_zh qe qf qg qh qa qb qc qd a1).1), .int .i64 ((sp_zh qe qf qg qh qa qb qc qd a1).2)])
 | _ => none
def C_zh : Cfg UU := C_ps.add 25 m_zh
theorem s_zh : SumOK C_zh := by
 refine addI3 rfl s_ps mixed (fn := Tryz.f25) (c := bo Tryz.f25) Tryz.func25 (by kernel_rfl) (by kernel_rfl) ?_
 intro xs cs r h hc
 unfold m_zh at h
 split at h
 ·rename_i qe qf qg qh qa qb qc qd a1
  cases h
  obtain ⟨F, hF⟩ := ok_zh qe qf qg qh qa qb qc qd a1 hc
  refine ⟨by kernel_rfl, M_zh, F, true, ⟨?_⟩⟩
  rw [exec_zh]
  refine hF _ ?_
  rfl
 ·cases h
set_option maxRecDepth 100000
def b_zs_0 (F n r : Nat) (S : ASt UU) (K : AEx → ASt UU → Prop) : Prop := iter (execG (inliner M_zs F 3 (inl3 C_zh).asDeep) (inl3 C_zh).asDeep Tryz.f26.ntmps M_zs F 0 (cL (cB (cS (cF (cS (cS (cS (cS (cS (bo Tryz.f26))))))))))) (M_zs 0 0) n r S K
def b_zs_1 (F n r : Nat) (S : ASt UU) (K : AEx → ASt UU → Prop) : Prop := iter (execG (inliner M_zs F 2 ((inl3 C_zh).asDeep.at 112000)) ((inl3 C_zh).asDeep.at 112000) Tryz.f72.ntmps M_zs F 0 (cL (cB (cS (cF (cS (cS (bo Tryz.f72)))))))) (M_zs 112000 0) n r S K
def b_zs_2 (F n r : Nat) (S : ASt UU) (K : AEx → ASt UU → Prop) : Prop := iter (execG (inliner M_zs F 3 (inl3 C_zh).asDeep) (inl3 C_zh).asDeep Tryz.f26.ntmps M_zs F 2 (cL (cB (cS (cF (cS (cS (cS (cS (cS (cS (cS (cS (bo Tryz.f26)))))))))))))) (M_zs 0 2) n r S K
def b_zs_3 (F n r : Nat) (S : ASt UU) (K : AEx → ASt UU → Prop) : Prop := iter (execG (inliner M_zs F 2 ((inl3 C_zh).asDeep.at 124000)) ((inl3 C_zh).asDeep.at 124000) Tryz.f73.ntmps M_zs F 0 (cL (cB (cS (cF (cS (cT (cS (cF (cS (bo Tryz.f73))))))))))) (M_zs 124000 0) n r S K
def b_zs_4 (F n r : Nat) (S : ASt UU) (K : AEx → ASt UU → Prop) : Prop := iter (execG (inliner M_zs F 2 ((inl3 C_zh).asDeep.at 124000)) ((inl3 C_zh).asDeep.at 124000) Tryz.f73.ntmps M_zs F 2 (cL (cB (cS (cS (cS (cS (bo Tryz.f73)))))))) (M_zs 124000 2) n r S K
def b_zs_5 (F n r : Nat) (S : ASt UU) (K : AEx → ASt UU → Prop) : Prop := iter (execG (inliner M_zs F 3 (inl3 C_zh).asDeep) (inl3 C_zh).asDeep Tryz.f26.ntmps M_zs F 4 (cL (cB (cS (cF (cS (cS (cS (cS (cS (cS (cS (cS (cS (cS (bo Tryz.f26)))))))))))))))) (M_zs 0 4) n r S K
def b_zs_6 (F n r : Nat) (S : ASt UU) (K : AEx → ASt UU → Prop) : Prop := iter (execG (inliner M_zs F 3 (inl3 C_zh).asDeep) (inl3 C_zh).asDeep Tryz.f26.ntmps M_zs F 6 (cL (cB (cS (cB (cF (cS (cL (cB (cS (cF (cS (cS (cS (cS (cS (cS (cS (cS (cS (cS (bo Tryz.f26)))))))))))))))))))))) (M_zs 0 6) n r S K
def b_zs_7 (F n r : Nat) (S : ASt UU) (K : AEx → ASt UU → Prop) : Prop := iter (execG (inliner M_zs F 2 ((inl3 C_zh).asDeep.at 158000)) ((inl3 C_zh).asDeep.at 158000) Tryz.f74.ntmps M_zs F 0 (cL (cB (cS (cS (cS (cS (bo Tryz.f74)))))))) (M_zs 158000 0) n r S K
def b_zs_8 (F n r : Nat) (S : ASt UU) (K : AEx → ASt UU → Prop) : Prop := iter (execG (inliner M_zs F 2 ((inl3 C_zh).asDeep.at 158000)) ((inl3 C_zh).asDeep.at 158000) Tryz.f74.ntmps M_zs F 2 (cL (cB (cS (cS (cS (cS (cS (cS (cS (cB (cF (cS (cL (cB (cS (cS (cS (cS (bo Tryz.f74)))))))))))))))))))) (M_zs 158000 2) n r S K
def k_zs_0 (F : Nat) (Post : AVal UU → Prop) : AEx → ASt UU → Prop := kBlock 0 (kSeq (inliner M_zs F 3 (inl3 C_zh).asDeep) (inl3 C_zh).asDeep Tryz.f26.ntmps M_zs F 0 (cS (cS (cS (cS (cS (cS (bo Tryz.f26))))))) (AEnds (inl3 C_zh).asDeep true Tryz.f26 Post))
def k_zs_1 (F : Nat) (Post : AVal UU → Prop) : AEx → ASt UU → Prop := kBlock 0 (kSeq (inliner M_zs F 2 ((inl3 C_zh).asDeep.at 112000)) ((inl3 C_zh).asDeep.at 112000) Tryz.f72.ntmps M_zs F 0 (cS (cS (cS (bo Tryz.f72)))) (kInl (inliner M_zs F 3 (inl3 C_zh).asDeep) (inl3 C_zh).asDeep Tryz.f26.ntmps (cR (cF (cS (cS (cS (cS (cS (cS (cS (bo Tryz.f26)))))))))) 4 3 Tryz.f72 (some 111) (fun s9 => (kSeq (inliner M_zs F 3 (inl3 C_zh).asDeep) (inl3 C_zh).asDeep Tryz.f26.ntmps M_zs F 0 (cS (cS (cS (cS (cS (cS (cS (cS (bo Tryz.f26))))))))) (AEnds (inl3 C_zh).asDeep true Tryz.f26 Post)) .normal s9)))
def k_zs_2 (F : Nat) (Post : AVal UU → Prop) : AEx → ASt UU → Prop := kBlock 2 (kSeq (inliner M_zs F 3 (inl3 C_zh).asDeep) (inl3 C_zh).asDeep Tryz.f26.ntmps M_zs F 0 (cS (cS (cS (cS (cS (cS (cS (cS (cS (bo Tryz.f26)))))))))) (AEnds (inl3 C_zh).asDeep true Tryz.f26 Post))
def k_zs_3 (F n r : Nat) (K : AEx → ASt UU → Prop) : AEx → ASt UU → Prop := kBlock 0 (kSeq (inliner M_zs F 2 ((inl3 C_zh).asDeep.at 124000)) ((inl3 C_zh).asDeep.at 124000) Tryz.f73.ntmps M_zs F 0 (cS (cS (cT (cS (cF (cS (bo Tryz.f73))))))) (kSeq (inliner M_zs F 2 ((inl3 C_zh).asDeep.at 124000)) ((inl3 C_zh).asDeep.at 124000) Tryz.f73.ntmps M_zs F 0 (cS (cS (bo Tryz.f73))) (kInl (inliner M_zs F 3 (inl3 C_zh).asDeep) (inl3 C_zh).asDeep Tryz.f26.ntmps (cR (cB (cF (cS (cL (cB (cS (cF (cS (cS (cS (cS (cS (cS (cS (cS (bo Tryz.f26))))))))))))))))) 6 6 Tryz.f73 (some 123) (fun s9 => (kBlock 3 (kSeq (inliner M_zs F 3 (inl3 C_zh).asDeep) (inl3 C_zh).asDeep Tryz.f26.ntmps M_zs F 2 (cS (cS (cL (cB (cS (cF (cS (cS (cS (cS (cS (cS (cS (cS (bo Tryz.f26))))))))))))))) (kIter (execG (inliner M_zs F 3 (inl3 C_zh).asDeep) (inl3 C_zh).asDeep Tryz.f26.ntmps M_zs F 2 (cL (cB (cS (cF (cS (cS (cS (cS (cS (cS (cS (cS (bo Tryz.f26)))))))))))))) (M_zs 0 2) n r K))) .normal s9))))
def k_zs_4 (F n r : Nat) (K : AEx → ASt UU → Prop) : AEx → ASt UU → Prop := kBlock 2 (kInl (inliner M_zs F 3 (inl3 C_zh).asDeep) (inl3 C_zh).asDeep Tryz.f26.ntmps (cR (cB (cF (cS (cL (cB (cS (cF (cS (cS (cS (cS (cS (cS (cS (cS (bo Tryz.f26))))))))))))))))) 6 6 Tryz.f73 (some 123) (fun s9 => (kBlock 3 (kSeq (inliner M_zs F 3 (inl3 C_zh).asDeep) (inl3 C_zh).asDeep Tryz.f26.ntmps M_zs F 2 (cS (cS (cL (cB (cS (cF (cS (cS (cS (cS (cS (cS (cS (cS (bo Tryz.f26))))))))))))))) (kIter (execG (inliner M_zs F 3 (inl3 C_zh).asDeep) (inl3 C_zh).asDeep Tryz.f26.ntmps M_zs F 2 (cL (cB (cS (cF (cS (cS (cS (cS (cS (cS (cS (cS (bo Tryz.f26)))))))))))))) (M_zs 0 2) n r K))) .normal s9))
def k_zs_5 (F : Nat) (Post : AVal UU → Prop) : AEx → ASt UU → Prop := kBlock 4 (kSeq (inliner M_zs F 3 (inl3 C_zh).asDeep) (inl3 C_zh).asDeep Tryz.f26.ntmps M_zs F 0 (cS (cS (cS (cS (cS (cS (cS (cS (cS (cS (cS (bo Tryz.f26)))))))))))) (AEnds (inl3 C_zh).asDeep true Tryz.f26 Post))
def k_zs_6 (F n r : Nat) (K : AEx → ASt UU → Prop) : AEx → ASt UU → Prop := kBlock 6 (kBlock 5 (kSeq (inliner M_zs F 3 (inl3 C_zh).asDeep) (inl3 C_zh).asDeep Tryz.f26.ntmps M_zs F 4 (cS (cS (cL (cB (cS (cF (cS (cS (cS (cS (cS (cS (cS (cS (cS (cS (bo Tryz.f26))))))))))))))))) (kIter (execG (inliner M_zs F 3 (inl3 C_zh).asDeep) (inl3 C_zh).asDeep Tryz.f26.ntmps M_zs F 4 (cL (cB (cS (cF (cS (cS (cS (cS (cS (cS (cS (cS (cS (cS (bo Tryz.f26)))))))))))))))) (M_zs 0 4) n r K)))
def k_zs_7 (F n r : Nat) (K : AEx → ASt UU → Prop) : AEx → ASt UU → Prop := kBlock 0 (kInl (inliner M_zs F 3 (inl3 C_zh).asDeep) (inl3 C_zh).asDeep Tryz.f26.ntmps (cR (cS (cT (cS (cF (cB (cF (cS (cL (cB (cS (cB (cF (cS (cL (cB (cS (cF (cS (cS (cS (cS (cS (cS (cS (cS (cS (cS (bo Tryz.f26))))))))))))))))))))))))))))) 6 6 Tryz.f74 (some 157) (fun s9 => (kSeq (inliner M_zs F 3 (inl3 C_zh).asDeep) (inl3 C_zh).asDeep Tryz.f26.ntmps M_zs F 7 (cS (cB (cF (cS (cL (cB (cS (cB (cF (cS (cL (cB (cS (cF (cS (cS (cS (cS (cS (cS (cS (cS (cS (cS (bo Tryz.f26))))))))))))))))))))))))) (kBlock 7 (kSeq (inliner M_zs F 3 (inl3 C_zh).asDeep) (inl3 C_zh).asDeep Tryz.f26.ntmps M_zs F 6 (cS (cS (cL (cB (cS (cB (cF (cS (cL (cB (cS (cF (cS (cS (cS (cS (cS (cS (cS (cS (cS (cS (bo Tryz.f26))))))))))))))))))))))) (kIter (execG (inliner M_zs F 3 (inl3 C_zh).asDeep) (inl3 C_zh).asDeep Tryz.f26.ntmps M_zs F 6 (cL (cB (cS (cB (cF (cS (cL (cB (cS (cF (cS (cS (cS (cS (cS (cS (cS (cS (cS (cS (bo Tryz.f26)))))))))))))))))))))) (M_zs 0 6) n r K)))) .normal s9))
def k_zs_8 (F n r : Nat) (K : AEx → ASt UU → Prop) : AEx → ASt UU → Prop := kBlock 2 (kBlock 1 (kSeq (inliner M_zs F 2 ((inl3 C_zh).asDeep.at 158000)) ((inl3 C_zh).asDeep.at 158000) Tryz.f74.ntmps M_zs F 0 (cS (cS (cL (cB (cS (cS (cS (cS (bo Tryz.f74))))))))) (kIter (execG (inliner M_zs F 2 ((inl3 C_zh).asDeep.at 158000)) ((inl3 C_zh).asDeep.at 158000) Tryz.f74.ntmps M_zs F 0 (cL (cB (cS (cS (cS (cS (bo Tryz.f74)))))))) (M_zs 158000 0) n r K)))
theorem step_zs_0 (F n r : Nat) (K : AEx → ASt UU → Prop) (t1 : List Seg) (t5 t9 : Int) (c2_0 c2_1 : ByteArray) (c2_2 c2_3 c2_4 c2_5 : Int) (c2_6 c2_7 : List Rect) (l208 l209 : zzI) : b_zs_0 F (n + 1) r (st_zs_0 t1 t5 t9 c2_0 c2_1 c2_2 c2_3 c2_4 c2_5 c2_6 c2_7 l208 l209) K = g_zs_s0 (fun t1 t5 t9 c2_0 c2_1 c2_2 c2_3 c2_4 c2_5 c2_6 c2_7 l208 l209 => b_zs_0 F n (r + 1) (st_zs_0 t1 t5 t9 c2_0 c2_1 c2_2 c2_3 c2_4 c2_5 c2_6 c2_7 l208 l209) K) (fun t1 t5 t9 c2_0 c2_1 c2_2 c2_3 c2_4 c2_5 c2_6 c2_7 l208 l209 => K .ret (st_zs_0 t1 t5 t9 c2_0 c2_1 c2_2 c2_3 c2_4 c2_5 c2_6 c2_7 l208 l209)) (fun t1 t5 t9 c2_0 c2_1 c2_2 c2_3 c2_4 c2_5 c2_6 c2_7 l208 l209 => K (.exit 0) (st_zs_0 t1 t5 t9 c2_0 c2_1 c2_2 c2_3 c2_4 c2_5 c2_6 c2_7 l208 l209)) t1 t5 t9 c2_0 c2_1 c2_2 c2_3 c2_4 c2_5 c2_6 c2_7 l208 l209 := by kernel_rfl
theorem cont_zs_0_0 (F : Nat) (Post : AVal UU → Prop) (t1 : List Seg) (t5 t9 : Int) (c2_0 c2_1 : ByteArray) (c2_2 c2_3 c2_4 c2_5 : Int) (c2_6 c2_7 : List Rect) (l208 l209 : zzI) : k_zs_0 F Post .ret (st_zs_0 t1 t5 t9 c2_0 c2_1 c2_2 c2_3 c2_4 c2_5 c2_6 c2_7 l208 l209) = g_zs_c0_0 (fun r0 r1 => Post (.tup [.newd .rects r0, .int .i64 r1])) t1 t5 t9 c2_0 c2_1 c2_2 c2_3 c2_4 c2_5 c2_6 c2_7 l208 l209 := by kernel_rfl
theorem cont_zs_0_1 (F : Nat) (Post : AVal UU → Prop) (t1 : List Seg) (t5 t9 : Int) (c2_0 c2_1 : ByteArray) (c2_2 c2_3 c2_4 c2_5 : Int) (c2_6 c2_7 : List Rect) (l208 l209 : zzI) : k_zs_0 F Post (.exit 0) (st_zs_0 t1 t5 t9 c2_0 c2_1 c2_2 c2_3 c2_4 c2_5 c2_6 c2_7 l208 l209) = g_zs_c0_1 (fun r0 r1 => Post (.tup [.newd .rects r0, .int .i64 r1])) t1 t5 t9 c2_0 c2_1 c2_2 c2_3 c2_4 c2_5 c2_6 c2_7 l208 l209 (fun t6 qcb l208 l209 qax qay qaz => b_zs_1 F F 0 (st_zs_1 t6 qcb l208 l209 qax qay qaz) (k_zs_1 F Post)) := by kernel_rfl
theorem step_zs_1 (F n r : Nat) (K : AEx → ASt UU → Prop) (t6 : Int) (qcb : List Seg) (l208 l209 : zzI) (qax qay : zzB) (qaz : zzZ) : b_zs_1 F (n + 1) r (st_zs_1 t6 qcb l208 l209 qax qay qaz) K = g_zs_s1 (fun t6 qcb l208 l209 qax qay qaz => b_zs_1 F n (r + 1) (st_zs_1 t6 qcb l208 l209 qax qay qaz) K) (fun t6 qcb l208 l209 qax qay qaz => K (.exit 0) (st_zs_1 t6 qcb l208 l209 qax qay qaz)) t6 qcb l208 l209 qax qay qaz := by kernel_rfl
theorem cont_zs_1_0 (F : Nat) (Post : AVal UU → Prop) (t6 : Int) (qcb : List Seg) (l208 l209 : zzI) (qax qay : zzB) (qaz : zzZ) : k_zs_1 F Post (.exit 0) (st_zs_1 t6 qcb l208 l209 qax qay qaz) = g_zs_c1_0 (fun r0 r1 => Post (.tup [.newd .rects r0, .int .i64 r1])) t6 qcb l208 l209 qax qay qaz (fun t1 t12 l208 l209 l210 l211 l212 => b_zs_2 F F 0 (st_zs_2 t1 t12 l208 l209 l210 l211 l212) (k_zs_2 F Post)) := by kernel_rfl
theorem step_zs_2 (F n r : Nat) (K : AEx → ASt UU → Prop) (t1 : List Seg) (t12 : Int) (l208 l209 : zzI) (l210 l211 : zzB) (l212 : zzZ) : b_zs_2 F (n + 1) r (st_zs_2 t1 t12 l208 l209 l210 l211 l212) K = g_zs_s2 (fun t1 t12 l208 l209 l210 l211 l212 => b_zs_2 F n (r + 1) (st_zs_2 t1 t12 l208 l209 l210 l211 l212) K) (fun t1 t12 l208 l209 l210 l211 l212 => K (.exit 2) (st_zs_2 t1 t12 l208 l209 l210 l211 l212)) t1 t12 l208 l209 l210 l211 l212 (fun t4 t5 qcb qcc l208 l209 qao qap qaq qar qba qbb qbc => b_zs_3 F F 0 (st_zs_3 t4 t5 qcb qcc l208 l209 qao qap qaq qar qba qbb qbc) (k_zs_3 F n r K)) (fun t6 t7 qcb qcc l208 l209 qao qap qaq qar qba qbb qbc => b_zs_4 F F 0 (st_zs_4 t6 t7 qcb qcc l208 l209 qao qap qaq qar qba qbb qbc) (k_zs_4 F n r K)) := by kernel_rfl
theorem cont_zs_2_0 (F : Nat) (Post : AVal UU → Prop) (t1 : List Seg) (t12 : Int) (l208 l209 : zzI) (l210 l211 : zzB) (l212 : zzZ) : k_zs_2 F Post (.exit 2) (st_zs_2 t1 t12 l208 l209 l210 l211 l212) = g_zs_c2_0 (fun r0 r1 => Post (.tup [.newd .rects r0, .int .i64 r1])) t1 t12 l208 l209 l210 l211 l212 (fun t14 l208 l209 l210 l211 l212 l213 => b_zs_5 F F 0 (st_zs_5 t14 l208 l209 l210 l211 l212 l213) (k_zs_5 F Post)) := by kernel_rfl
theorem step_zs_3 (F n r : Nat) (K : AEx → ASt UU → Prop) (t4 t5 : Int) (qcb : List Seg) (qcc : Int) (l208 l209 : zzI) (qao qap qaq qar : Int) (qba qbb : zzB) (qbc : zzZ) : b_zs_3 F (n + 1) r (st_zs_3 t4 t5 qcb qcc l208 l209 qao qap qaq qar qba qbb qbc) K = g_zs_s3 (fun t4 t5 qcb qcc l208 l209 qao qap qaq qar qba qbb qbc => b_zs_3 F n (r + 1) (st_zs_3 t4 t5 qcb qcc l208 l209 qao qap qaq qar qba qbb qbc) K) (fun t4 t5 qcb qcc l208 l209 qao qap qaq qar qba qbb qbc => K (.exit 0) (st_zs_3 t4 t5 qcb qcc l208 l209 qao qap qaq qar qba qbb qbc)) t4 t5 qcb qcc l208 l209 qao qap qaq qar qba qbb qbc := by kernel_rfl
theorem cont_zs_3_0 (F n r : Nat) (K : AEx → ASt UU → Prop) (t4 t5 : Int) (qcb : List Seg) (qcc : Int) (l208 l209 : zzI) (qao qap qaq qar : Int) (qba qbb : zzB) (qbc : zzZ) : k_zs_3 F n r K (.exit 0) (st_zs_3 t4 t5 qcb qcc l208 l209 qao qap qaq qar qba qbb qbc) = g_zs_c3_0 (fun t1 t12 l208 l209 l210 l211 l212 => b_zs_2 F n (r + 1) (st_zs_2 t1 t12 l208 l209 l210 l211 l212) K) (fun t1 t12 l208 l209 l210 l211 l212 => K (.exit 2) (st_zs_2 t1 t12 l208 l209 l210 l211 l212)) t4 t5 qcb qcc l208 l209 qao qap qaq qar qba qbb qbc := by kernel_rfl
theorem step_zs_4 (F n r : Nat) (K : AEx → ASt UU → Prop) (t6 t7 : Int) (qcb : List Seg) (qcc : Int) (l208 l209 : zzI) (qao qap qaq qar : Int) (qba qbb : zzB) (qbc : zzZ) : b_zs_4 F (n + 1) r (st_zs_4 t6 t7 qcb qcc l208 l209 qao qap qaq qar qba qbb qbc) K = g_zs_s4 (fun t6 t7 qcb qcc l208 l209 qao qap qaq qar qba qbb qbc => b_zs_4 F n (r + 1) (st_zs_4 t6 t7 qcb qcc l208 l209 qao qap qaq qar qba qbb qbc) K) (fun t6 t7 qcb qcc l208 l209 qao qap qaq qar qba qbb qbc => K (.exit 2) (st_zs_4 t6 t7 qcb qcc l208 l209 qao qap qaq qar qba qbb qbc)) t6 t7 qcb qcc l208 l209 qao qap qaq qar qba qbb qbc := by kernel_rfl
theorem cont_zs_4_0 (F n r : Nat) (K : AEx → ASt UU → Prop) (t6 t7 : Int) (qcb : List Seg) (qcc : Int) (l208 l209 : zzI) (qao qap qaq qar : Int) (qba qbb : zzB) (qbc : zzZ) : k_zs_4 F n r K (.exit 2) (st_zs_4 t6 t7 qcb qcc l208 l209 qao qap qaq qar qba qbb qbc) = g_zs_c4_0 (fun t1 t12 l208 l209 l210 l211 l212 => b_zs_2 F n (r + 1) (st_zs_2 t1 t12 l208 l209 l210 l211 l212) K) (fun t1 t12 l208 l209 l210 l211 l212 => K (.exit 2) (st_zs_2 t1 t12 l208 l209 l210 l211 l212)) t6 t7 qcb qcc l208 l209 qao qap qaq qar qba qbb qbc := by kernel_rfl
theorem step_zs_5 (F n r : Nat) (K : AEx → ASt UU → Prop) (t14 : Int) (l208 l209 : zzI) (l210 l211 : zzB) (l212 : zzZ) (l213 : List (List Rect)) : b_zs_5 F (n + 1) r (st_zs_5 t14 l208 l209 l210 l211 l212 l213) K = g_zs_s5 (fun t14 l208 l209 l210 l211 l212 l213 => b_zs_5 F n (r + 1) (st_zs_5 t14 l208 l209 l210 l211 l212 l213) K) (fun t14 l208 l209 l210 l211 l212 l213 => K (.exit 4) (st_zs_5 t14 l208 l209 l210 l211 l212 l213)) t14 l208 l209 l210 l211 l212 l213 (fun t14 t15 l208 l209 l210 l211 l212 l213 => b_zs_6 F F 0 (st_zs_6 t14 t15 l208 l209 l210 l211 l212 l213) (k_zs_6 F n r K)) := by kernel_rfl
theorem cont_zs_5_0 (F : Nat) (Post : AVal UU → Prop) (t14 : Int) (l208 l209 : zzI) (l210 l211 : zzB) (l212 : zzZ) (l213 : List (List Rect)) : k_zs_5 F Post (.exit 4) (st_zs_5 t14 l208 l209 l210 l211 l212 l213) = g_zs_c5_0 (fun r0 r1 => Post (.tup [.newd .rects r0, .int .i64 r1])) t14 l208 l209 l210 l211 l212 l213 := by kernel_rfl
theorem step_zs_6 (F n r : Nat) (K : AEx → ASt UU → Prop) (t14 t15 : Int) (l208 l209 : zzI) (l210 l211 : zzB) (l212 : zzZ) (l213 : List (List Rect)) : b_zs_6 F (n + 1) r (st_zs_6 t14 t15 l208 l209 l210 l211 l212 l213) K = g_zs_s6 (fun t14 t15 l208 l209 l210 l211 l212 l213 => b_zs_6 F n (r + 1) (st_zs_6 t14 t15 l208 l209 l210 l211 l212 l213) K) (fun t14 t15 l208 l209 l210 l211 l212 l213 => K (.exit 6) (st_zs_6 t14 t15 l208 l209 l210 l211 l212 l213)) t14 t15 l208 l209 l210 l211 l212 l213 (fun t3 t8 t9 t11 qcd qce l208 l209 qbd qbe qbf qbg qbh => b_zs_7 F F 0 (st_zs_7 t3 t8 t9 t11 qcd qce l208 l209 qbd qbe qbf qbg qbh) (k_zs_7 F n r K)) := by kernel_rfl
theorem cont_zs_6_0 (F n r : Nat) (K : AEx → ASt UU → Prop) (t14 t15 : Int) (l208 l209 : zzI) (l210 l211 : zzB) (l212 : zzZ) (l213 : List (List Rect)) : k_zs_6 F n r K (.exit 6) (st_zs_6 t14 t15 l208 l209 l210 l211 l212 l213) = g_zs_c6_0 (fun t14 l208 l209 l210 l211 l212 l213 => b_zs_5 F n (r + 1) (st_zs_5 t14 l208 l209 l210 l211 l212 l213) K) (fun t14 l208 l209 l210 l211 l212 l213 => K (.exit 4) (st_zs_5 t14 l208 l209 l210 l211 l212 l213)) t14 t15 l208 l209 l210 l211 l212 l213 := by kernel_rfl
theorem step_zs_7 (F n r : Nat) (K : AEx → ASt UU → Prop) (t3 t8 t9 t11 qcd qce : Int) (l208 l209 : zzI) (qbd : List Cel) (qbe : List (List Rect)) (qbf qbg : zzB) (qbh : zzZ) : b_zs_7 F (n + 1) r (st_zs_7 t3 t8 t9 t11 qcd qce l208 l209 qbd qbe qbf qbg qbh) K = g_zs_s7 (fun t3 t8 t9 t11 qcd qce l208 l209 qbd qbe qbf qbg qbh => b_zs_7 F n (r + 1) (st_zs_7 t3 t8 t9 t11 qcd qce l208 l209 qbd qbe qbf qbg qbh) K) (fun t3 t8 t9 t11 qcd qce l208 l209 qbd qbe qbf qbg qbh => K (.exit 0) (st_zs_7 t3 t8 t9 t11 qcd qce l208 l209 qbd qbe qbf qbg qbh)) t3 t8 t9 t11 qcd qce l208 l209 qbd qbe qbf qbg qbh (fun t3 t8 t9 t11 t14 qcd qce l208 l209 qbd qbe qbf qbg qbh qbi => b_zs_8 F F 0 (st_zs_8 t3 t8 t9 t11 t14 qcd qce l208 l209 qbd qbe qbf qbg qbh qbi) (k_zs_8 F n r K)) := by kernel_rfl
theorem cont_zs_7_0 (F n r : Nat) (K : AEx → ASt UU → Prop) (t3 t8 t9 t11 qcd qce : Int) (l208 l209 : zzI) (qbd : List Cel) (qbe : List (List Rect)) (qbf qbg : zzB) (qbh : zzZ) : k_zs_7 F n r K (.exit 0) (st_zs_7 t3 t8 t9 t11 qcd qce l208 l209 qbd qbe qbf qbg qbh) = g_zs_c7_0 (fun t14 t15 l208 l209 l210 l211 l212 l213 => b_zs_6 F n (r + 1) (st_zs_6 t14 t15 l208 l209 l210 l211 l212 l213) K) (fun t14 t15 l208 l209 l210 l211 l212 l213 => K (.exit 6) (st_zs_6 t14 t15 l208 l209 l210 l211 l212 l213)) t3 t8 t9 t11 qcd qce l208 l209 qbd qbe qbf qbg qbh := by kernel_rfl
theorem step_zs_8 (F n r : Nat) (K : AEx → ASt UU → Prop) (t3 t8 t9 t11 t14 qcd qce : Int) (l208 l209 : zzI) (qbd qbe : List Cel) (qbf : List (List Rect)) (qbg qbh : zzB) (qbi : zzZ) : b_zs_8 F (n + 1) r (st_zs_8 t3 t8 t9 t11 t14 qcd qce l208 l209 qbd qbe qbf qbg qbh qbi) K = g_zs_s8 (fun t3 t8 t9 t11 t14 qcd qce l208 l209 qbd qbe qbf qbg qbh qbi => b_zs_8 F n (r + 1) (st_zs_8 t3 t8 t9 t11 t14 qcd qce l208 l209 qbd qbe qbf qbg qbh qbi) K) (fun t3 t8 t9 t11 t14 qcd qce l208 l209 qbd qbe qbf qbg qbh qbi => K (.exit 2) (st_zs_8 t3 t8 t9 t11 t14 qcd qce l208 l209 qbd qbe qbf qbg qbh qbi)) t3 t8 t9 t11 t14 qcd qce l208 l209 qbd qbe qbf qbg qbh qbi := by kernel_rfl
theorem cont_zs_8_0 (F n r : Nat) (K : AEx → ASt UU → Prop) (t3 t8 t9 t11 t14 qcd qce : Int) (l208 l209 : zzI) (qbd qbe : List Cel) (qbf : List (List Rect)) (qbg qbh : zzB) (qbi : zzZ) : k_zs_8 F n r K (.exit 2) (st_zs_8 t3 t8 t9 t11 t14 qcd qce l208 l209 qbd qbe qbf qbg qbh qbi) = g_zs_c8_0 (fun t3 t8 t9 t11 qcd qce l208 l209 qbd qbe qbf qbg qbh => b_zs_7 F n (r + 1) (st_zs_7 t3 t8 t9 t11 qcd qce l208 l209 qbd qbe qbf qbg qbh) K) (fun t3 t8 t9 t11 qcd qce l208 l209 qbd qbe qbf qbg qbh => K (.exit 0) (st_zs_7 t3 t8 t9 t11 qcd qce l208 l209 qbd qbe qbf qbg qbh)) t3 t8 t9 t11 t14 qcd qce l208 l209 qbd qbe qbf qbg qbh qbi := by kernel_rfl
theorem entry_zs (F : Nat) (Post : AVal UU → Prop) (qe qf : ByteArray) (qg qh qa qb : Int) (qc qd : List Rect) (a1 : List Seg) : exec (inl3 C_zh).asDeep Tryz.f26.ntmps M_zs F 0 (bo Tryz.f26) (initSt [.agg [.str qe, .str qf, .int .i64 qg, .int .i64 qh, .int .i64 qa, .int .i64 qb, .sl .rect qc, .sl .rect qd], .sl .seg a1]) (AEnds (inl3 C_zh).asDeep true Tryz.f26 Post) = g_zs_e qe qf qg qh qa qb qc qd a1 (fun r0 r1 => Post (.tup [.newd .rects r0, .int .i64 r1])) (fun t1 t5 t9 c2_0 c2_1 c2_2 c2_3 c2_4 c2_5 c2_6 c2_7 l208 l209 => b_zs_0 F F 0 (st_zs_0 t1 t5 t9 c2_0 c2_1 c2_2 c2_3 c2_4 c2_5 c2_6 c2_7 l208 l209) (k_zs_0 F Post)) := by kernel_rfl
theorem loop_zs_3 (F : Nat) (K : AEx → ASt UU → Prop) : ∀ (n r : Nat) (t4 t5 : Int) (qcb : List Seg) (qcc : Int) (l208 l209 : zzI) (qao qap qaq qar : Int) (qba qbb : zzB) (qbc : zzZ), b_zs_3 F n r (st_zs_3 t4 t5 qcb qcc l208 l209 qao qap qaq qar qba qbb qbc) K = w_zs_3 F  (fun t4 t5 qcb qcc l208 l209 qao qap qaq qar qba qbb qbc => K (.exit 0) (st_zs_3 t4 t5 qcb qcc l208 l209 qao qap qaq qar qba qbb qbc)) n t4 t5 qcb qcc l208 l209 qao qap qaq qar qba qbb qbc := by
 intro n
 induction n with
 | zero => intros; rfl
 | succ n ih =>
  intro r t4 t5 qcb qcc l208 l209 qao qap qaq qar qba qbb qbc
  have e : (fun t4 t5 qcb qcc l208 l209 qao qap qaq qar qba qbb qbc => b_zs_3 F n (r + 1) (st_zs_3 t4 t5 qcb qcc l208 l209 qao qap qaq qar qba qbb qbc) K) = w_zs_3 F  (fun t4 t5 qcb qcc l208 l209 qao qap qaq qar qba qbb qbc => K (.exit 0) (st_zs_3 t4 t5 qcb qcc l208 l209 qao qap qaq qar qba qbb qbc)) n := by
   funext t4 t5 qcb qcc l208 l209 qao qap qaq qar qba qbb qbc
   exact ih (r + 1) t4 t5 qcb qcc l208 l209 qao qap qaq qar qba qbb qbc
  rw [step_zs_3, e]
  rfl
theorem nl_zs_3 (F n r : Nat) (K : AEx → ASt UU → Prop) (t4 t5 : Int) (qcb : List Seg) (qcc : Int) (l208 l209 : zzI) (qao qap qaq qar : Int) (qba qbb : zzB) (qbc : zzZ) : b_zs_3 F F 0 (st_zs_3 t4 t5 qcb qcc l208 l209 qao qap qaq qar qba qbb qbc) (k_zs_3 F n r K) = n_zs_3 F (fun t1 t12 l208 l209 l210 l211 l212 => b_zs_2 F n (r + 1) (st_zs_2 t1 t12 l208 l209 l210 l211 l212) K) (fun t1 t12 l208 l209 l210 l211 l212 => K (.exit 2) (st_zs_2 t1 t12 l208 l209 l210 l211 l212)) t4 t5 qcb qcc l208 l209 qao qap qaq qar qba qbb qbc := by
 rw [loop_zs_3]
 have h0 : (fun t4 t5 qcb qcc l208 l209 qao qap qaq qar qba qbb qbc => k_zs_3 F n r K (.exit 0) (st_zs_3 t4 t5 qcb qcc l208 l209 qao qap qaq qar qba qbb qbc)) = (fun t4 t5 qcb qcc l208 l209 qao qap qaq qar qba qbb qbc => g_zs_c3_0 (fun t1 t12 l208 l209 l210 l211 l212 => b_zs_2 F n (r + 1) (st_zs_2 t1 t12 l208 l209 l210 l211 l212) K) (fun t1 t12 l208 l209 l210 l211 l212 => K (.exit 2) (st_zs_2 t1 t12 l208 l209 l210 l211 l212)) t4 t5 qcb qcc l208 l209 qao qap qaq qar qba qbb qbc) := by
  funext t4 t5 qcb qcc l208 l209 qao qap qaq qar qba qbb qbc
  rw [cont_zs_3_0]
 rw [h0]
 rfl
theorem loop_zs_4 (F : Nat) (K : AEx → ASt UU → Prop) : ∀ (n r : Nat) (t6 t7 : Int) (qcb : List Seg) (qcc : Int) (l208 l209 : zzI) (qao qap qaq qar : Int) (qba qbb : zzB) (qbc : zzZ), b_zs_4 F n r (st_zs_4 t6 t7 qcb qcc l208 l209 qao qap qaq qar qba qbb qbc) K = w_zs_4 F  (fun t6 t7 qcb qcc l208 l209 qao qap qaq qar qba qbb qbc => K (.exit 2) (st_zs_4 t6 t7 qcb qcc l208 l209 qao qap qaq qar qba qbb qbc)) n t6 t7 qcb qcc l208 l209 qao qap qaq qar qba qbb qbc := by
 intro n
 induction n with
 | zero => intros; rfl
 | succ n ih =>
  intro r t6 t7 qcb qcc l208 l209 qao qap qaq qar qba qbb qbc
  have e : (fun t6 t7 qcb qcc l208 l209 qao qap qaq qar qba qbb qbc => b_zs_4 F n (r + 1) (st_zs_4 t6 t7 qcb qcc l208 l209 qao qap qaq qar qba qbb qbc) K) = w_zs_4 F  (fun t6 t7 qcb qcc l208 l209 qao qap qaq qar qba qbb qbc => K (.exit 2) (st_zs_4 t6 t7 qcb qcc l208 l209 qao qap qaq qar qba qbb qbc)) n := by
   funext t6 t7 qcb qcc l208 l209 qao qap qaq qar qba qbb qbc
   exact ih (r + 1) t6 t7 qcb qcc l208 l209 qao qap qaq qar qba qbb qbc
  rw [step_zs_4, e]
  rfl
theorem nl_zs_4 (F n r : Nat) (K : AEx → ASt UU → Prop) (t6 t7 : Int) (qcb : List Seg) (qcc : Int) (l208 l209 : zzI) (qao qap qaq qar : Int) (qba qbb : zzB) (qbc : zzZ) : b_zs_4 F F 0 (st_zs_4 t6 t7 qcb qcc l208 l209 qao qap qaq qar qba qbb qbc) (k_zs_4 F n r K) = n_zs_4 F (fun t1 t12 l208 l209 l210 l211 l212 => b_zs_2 F n (r + 1) (st_zs_2 t1 t12 l208 l209 l210 l211 l212) K) (fun t1 t12 l208 l209 l210 l211 l212 => K (.exit 2) (st_zs_2 t1 t12 l208 l209 l210 l211 l212)) t6 t7 qcb qcc l208 l209 qao qap qaq qar qba qbb qbc := by
 rw [loop_zs_4]
 have h0 : (fun t6 t7 qcb qcc l208 l209 qao qap qaq qar qba qbb qbc => k_zs_4 F n r K (.exit 2) (st_zs_4 t6 t7 qcb qcc l208 l209 qao qap qaq qar qba qbb qbc)) = (fun t6 t7 qcb qcc l208 l209 qao qap qaq qar qba qbb qbc => g_zs_c4_0 (fun t1 t12 l208 l209 l210 l211 l212 => b_zs_2 F n (r + 1) (st_zs_2 t1 t12 l208 l209 l210 l211 l212) K) (fun t1 t12 l208 l209 l210 l211 l212 => K (.exit 2) (st_zs_2 t1 t12 l208 l209 l210 l211 l212)) t6 t7 qcb qcc l208 l209 qao qap qaq qar qba qbb qbc) := by
  funext t6 t7 qcb qcc l208 l209 qao qap qaq qar qba qbb qbc
  rw [cont_zs_4_0]
 rw [h0]
 rfl
theorem loop_zs_8 (F : Nat) (K : AEx → ASt UU → Prop) : ∀ (n r : Nat) (t3 t8 t9 t11 t14 qcd qce : Int) (l208 l209 : zzI) (qbd qbe : List Cel) (qbf : List (List Rect)) (qbg qbh : zzB) (qbi : zzZ), b_zs_8 F n r (st_zs_8 t3 t8 t9 t11 t14 qcd qce l208 l209 qbd qbe qbf qbg qbh qbi) K = w_zs_8 F  (fun t3 t8 t9 t11 t14 qcd qce l208 l209 qbd qbe qbf qbg qbh qbi => K (.exit 2) (st_zs_8 t3 t8 t9 t11 t14 qcd qce l208 l209 qbd qbe qbf qbg qbh qbi)) n t3 t8 t9 t11 t14 qcd qce l208 l209 qbd qbe qbf qbg qbh qbi := by
 intro n
 induction n with
 | zero => intros; rfl
 | succ n ih =>
  intro r t3 t8 t9 t11 t14 qcd qce l208 l209 qbd qbe qbf qbg qbh qbi
  have e : (fun t3 t8 t9 t11 t14 qcd qce l208 l209 qbd qbe qbf qbg qbh qbi => b_zs_8 F n (r + 1) (st_zs_8 t3 t8 t9 t11 t14 qcd qce l208 l209 qbd qbe qbf qbg qbh qbi) K) = w_zs_8 F  (fun t3 t8 t9 t11 t14 qcd qce l208 l209 qbd qbe qbf qbg qbh qbi => K (.exit 2) (st_zs_8 t3 t8 t9 t11 t14 qcd qce l208 l209 qbd qbe qbf qbg qbh qbi)) n := by
   funext t3 t8 t9 t11 t14 qcd qce l208 l209 qbd qbe qbf qbg qbh qbi
   exact ih (r + 1) t3 t8 t9 t11 t14 qcd qce l208 l209 qbd qbe qbf qbg qbh qbi
  rw [step_zs_8, e]
  rfl
theorem nl_zs_8 (F n r : Nat) (K : AEx → ASt UU → Prop) (t3 t8 t9 t11 t14 qcd qce : Int) (l208 l209 : zzI) (qbd qbe : List Cel) (qbf : List (List Rect)) (qbg qbh : zzB) (qbi : zzZ) : b_zs_8 F F 0 (st_zs_8 t3 t8 t9 t11 t14 qcd qce l208 l209 qbd qbe qbf qbg qbh qbi) (k_zs_8 F n r K) = n_zs_8 F (fun t3 t8 t9 t11 qcd qce l208 l209 qbd qbe qbf qbg qbh => b_zs_7 F n (r + 1) (st_zs_7 t3 t8 t9 t11 qcd qce l208 l209 qbd qbe qbf qbg qbh) K) (fun t3 t8 t9 t11 qcd qce l208 l209 qbd qbe qbf qbg qbh => K (.exit 0) (st_zs_7 t3 t8 t9 t11 qcd qce l208 l209 qbd qbe qbf qbg qbh)) t3 t8 t9 t11 t14 qcd qce l208 l209 qbd qbe qbf qbg qbh qbi := by
 rw [loop_zs_8]
 have h0 : (fun t3 t8 t9 t11 t14 qcd qce l208 l209 qbd qbe qbf qbg qbh qbi => k_zs_8 F n r K (.exit 2) (st_zs_8 t3 t8 t9 t11 t14 qcd qce l208 l209 qbd qbe qbf qbg qbh qbi)) = (fun t3 t8 t9 t11 t14 qcd qce l208 l209 qbd qbe qbf qbg qbh qbi => g_zs_c8_0 (fun t3 t8 t9 t11 qcd qce l208 l209 qbd qbe qbf qbg qbh => b_zs_7 F n (r + 1) (st_zs_7 t3 t8 t9 t11 qcd qce l208 l209 qbd qbe qbf qbg qbh) K) (fun t3 t8 t9 t11 qcd qce l208 l209 qbd qbe qbf qbg qbh => K (.exit 0) (st_zs_7 t3 t8 t9 t11 qcd qce l208 l209 qbd qbe qbf qbg qbh)) t3 t8 t9 t11 t14 qcd qce l208 l209 qbd qbe qbf qbg qbh qbi) := by
  funext t3 t8 t9 t11 t14 qcd qce l208 l209 qbd qbe qbf qbg qbh qbi
  rw [cont_zs_8_0]
 rw [h0]
 rfl
theorem loop_zs_7 (F : Nat) (K : AEx → ASt UU → Prop) : ∀ (n r : Nat) (t3 t8 t9 t11 qcd qce : Int) (l208 l209 : zzI) (qbd : List Cel) (qbe : List (List Rect)) (qbf qbg : zzB) (qbh : zzZ), b_zs_7 F n r (st_zs_7 t3 t8 t9 t11 qcd qce l208 l209 qbd qbe qbf qbg qbh) K = w_zs_7 F  (fun t3 t8 t9 t11 qcd qce l208 l209 qbd qbe qbf qbg qbh => K (.exit 0) (st_zs_7 t3 t8 t9 t11 qcd qce l208 l209 qbd qbe qbf qbg qbh)) n t3 t8 t9 t11 qcd qce l208 l209 qbd qbe qbf qbg qbh := by
 intro n
 induction n with
 | zero => intros; rfl
 | succ n ih =>
  intro r t3 t8 t9 t11 qcd qce l208 l209 qbd qbe qbf qbg qbh
  have e : (fun t3 t8 t9 t11 qcd qce l208 l209 qbd qbe qbf qbg qbh => b_zs_7 F n (r + 1) (st_zs_7 t3 t8 t9 t11 qcd qce l208 l209 qbd qbe qbf qbg qbh) K) = w_zs_7 F  (fun t3 t8 t9 t11 qcd qce l208 l209 qbd qbe qbf qbg qbh => K (.exit 0) (st_zs_7 t3 t8 t9 t11 qcd qce l208 l209 qbd qbe qbf qbg qbh)) n := by
   funext t3 t8 t9 t11 qcd qce l208 l209 qbd qbe qbf qbg qbh
   exact ih (r + 1) t3 t8 t9 t11 qcd qce l208 l209 qbd qbe qbf qbg qbh
  have e8 : (fun t3 t8 t9 t11 t14 qcd qce l208 l209 qbd qbe qbf qbg qbh qbi => b_zs_8 F F 0 (st_zs_8 t3 t8 t9 t11 t14 qcd qce l208 l209 qbd qbe qbf qbg qbh qbi) (k_zs_8 F n r K)) = (n_zs_8 F (fun t3 t8 t9 t11 qcd qce l208 l209 qbd qbe qbf qbg qbh => b_zs_7 F n (r + 1) (st_zs_7 t3 t8 t9 t11 qcd qce l208 l209 qbd qbe qbf qbg qbh) K) (fun t3 t8 t9 t11 qcd qce l208 l209 qbd qbe qbf qbg qbh => K (.exit 0) (st_zs_7 t3 t8 t9 t11 qcd qce l208 l209 qbd qbe qbf qbg qbh))) := by
   funext t3 t8 t9 t11 t14 qcd qce l208 l209 qbd qbe qbf qbg qbh qbi
   exact nl_zs_8 F n r K t3 t8 t9 t11 t14 qcd qce l208 l209 qbd qbe qbf qbg qbh qbi
  rw [step_zs_7, e8, e]
  rfl
theorem nl_zs_7 (F n r : Nat) (K : AEx → ASt UU → Prop) (t3 t8 t9 t11 qcd qce : Int) (l208 l209 : zzI) (qbd : List Cel) (qbe : List (List Rect)) (qbf qbg : zzB) (qbh : zzZ) : b_zs_7 F F 0 (st_zs_7 t3 t8 t9 t11 qcd qce l208 l209 qbd qbe qbf qbg qbh) (k_zs_7 F n r K) = n_zs_7 F (fun t14 t15 l208 l209 l210 l211 l212 l213 => b_zs_6 F n (r + 1) (st_zs_6 t14 t15 l208 l209 l210 l211 l212 l213) K) (fun t14 t15 l208 l209 l210 l211 l212 l213 => K (.exit 6) (st_zs_6 t14 t15 l208 l209 l210 l211 l212 l213)) t3 t8 t9 t11 qcd qce l208 l209 qbd qbe qbf qbg qbh := by
 rw [loop_zs_7]
 have h0 : (fun t3 t8 t9 t11 qcd qce l208 l209 qbd qbe qbf qbg qbh => k_zs_7 F n r K (.exit 0) (st_zs_7 t3 t8 t9 t11 qcd qce l208 l209 qbd qbe qbf qbg qbh)) = (fun t3 t8 t9 t11 qcd qce l208 l209 qbd qbe qbf qbg qbh => g_zs_c7_0 (fun t14 t15 l208 l209 l210 l211 l212 l213 => b_zs_6 F n (r + 1) (st_zs_6 t14 t15 l208 l209 l210 l211 l212 l213) K) (fun t14 t15 l208 l209 l210 l211 l212 l213 => K (.exit 6) (st_zs_6 t14 t15 l208 l209 l210 l211 l212 l213)) t3 t8 t9 t11 qcd qce l208 l209 qbd qbe qbf qbg qbh) := by
  funext t3 t8 t9 t11 qcd qce l208 l209 qbd qbe qbf qbg qbh
  rw [cont_zs_7_0]
 rw [h0]
 rfl
theorem loop_zs_6 (F : Nat) (K : AEx → ASt UU → Prop) : ∀ (n r : Nat) (t14 t15 : Int) (l208 l209 : zzI) (l210 l211 : zzB) (l212 : zzZ) (l213 : List (List Rect)), b_zs_6 F n r (st_zs_6 t14 t15 l208 l209 l210 l211 l212 l213) K = w_zs_6 F  (fun t14 t15 l208 l209 l210 l211 l212 l213 => K (.exit 6) (st_zs_6 t14 t15 l208 l209 l210 l211 l212 l213)) n t14 t15 l208 l209 l210 l211 l212 l213 := by
 intro n
 induction n with
 | zero => intros; rfl
 | succ n ih =>
  intro r t14 t15 l208 l209 l210 l211 l212 l213
  have e : (fun t14 t15 l208 l209 l210 l211 l212 l213 => b_zs_6 F n (r + 1) (st_zs_6 t14 t15 l208 l209 l210 l211 l212 l213) K) = w_zs_6 F  (fun t14 t15 l208 l209 l210 l211 l212 l213 => K (.exit 6) (st_zs_6 t14 t15 l208 l209 l210 l211 l212 l213)) n := by
   funext t14 t15 l208 l209 l210 l211 l212 l213
   exact ih (r + 1) t14 t15 l208 l209 l210 l211 l212 l213
  have e7 : (fun t3 t8 t9 t11 qcd qce l208 l209 qbd qbe qbf qbg qbh => b_zs_7 F F 0 (st_zs_7 t3 t8 t9 t11 qcd qce l208 l209 qbd qbe qbf qbg qbh) (k_zs_7 F n r K)) = (n_zs_7 F (fun t14 t15 l208 l209 l210 l211 l212 l213 => b_zs_6 F n (r + 1) (st_zs_6 t14 t15 l208 l209 l210 l211 l212 l213) K) (fun t14 t15 l208 l209 l210 l211 l212 l213 => K (.exit 6) (st_zs_6 t14 t15 l208 l209 l210 l211 l212 l213))) := by
   funext t3 t8 t9 t11 qcd qce l208 l209 qbd qbe qbf qbg qbh
   exact nl_zs_7 F n r K t3 t8 t9 t11 qcd qce l208 l209 qbd qbe qbf qbg qbh
  rw [step_zs_6, e7, e]
  rfl
theorem nl_zs_6 (F n r : Nat) (K : AEx → ASt UU → Prop) (t14 t15 : Int) (l208 l209 : zzI) (l210 l211 : zzB) (l212 : zzZ) (l213 : List (List Rect)) : b_zs_6 F F 0 (st_zs_6 t14 t15 l208 l209 l210 l211 l212 l213) (k_zs_6 F n r K) = n_zs_6 F (fun t14 l208 l209 l210 l211 l212 l213 => b_zs_5 F n (r + 1) (st_zs_5 t14 l208 l209 l210 l211 l212 l213) K) (fun t14 l208 l209 l210 l211 l212 l213 => K (.exit 4) (st_zs_5 t14 l208 l209 l210 l211 l212 l213)) t14 t15 l208 l209 l210 l211 l212 l213 := by
 rw [loop_zs_6]
 have h0 : (fun t14 t15 l208 l209 l210 l211 l212 l213 => k_zs_6 F n r K (.exit 6) (st_zs_6 t14 t15 l208 l209 l210 l211 l212 l213)) = (fun t14 t15 l208 l209 l210 l211 l212 l213 => g_zs_c6_0 (fun t14 l208 l209 l210 l211 l212 l213 => b_zs_5 F n (r + 1) (st_zs_5 t14 l208 l209 l210 l211 l212 l213) K) (fun t14 l208 l209 l210 l211 l212 l213 => K (.exit 4) (st_zs_5 t14 l208 l209 l210 l211 l212 l213)) t14 t15 l208 l209 l210 l211 l212 l213) := by
  funext t14 t15 l208 l209 l210 l211 l212 l213
  rw [cont_zs_6_0]
 rw [h0]
 rfl
theorem loop_zs_5 (F : Nat) (K : AEx → ASt UU → Prop) : ∀ (n r : Nat) (t14 : Int) (l208 l209 : zzI) (l210 l211 : zzB) (l212 : zzZ) (l213 : List (List Rect)), b_zs_5 F n r (st_zs_5 t14 l208 l209 l210 l211 l212 l213) K = w_zs_5 F  (fun t14 l208 l209 l210 l211 l212 l213 => K (.exit 4) (st_zs_5 t14 l208 l209 l210 l211 l212 l213)) n t14 l208 l209 l210 l211 l212 l213 := by
 intro n
 induction n with
 | zero => intros; rfl
 | succ n ih =>
  intro r t14 l208 l209 l210 l211 l212 l213
  have e : (fun t14 l208 l209 l210 l211 l212 l213 => b_zs_5 F n (r + 1) (st_zs_5 t14 l208 l209 l210 l211 l212 l213) K) = w_zs_5 F  (fun t14 l208 l209 l210 l211 l212 l213 => K (.exit 4) (st_zs_5 t14 l208 l209 l210 l211 l212 l213)) n := by
   funext t14 l208 l209 l210 l211 l212 l213
   exact ih (r + 1) t14 l208 l209 l210 l211 l212 l213
  have e6 : (fun t14 t15 l208 l209 l210 l211 l212 l213 => b_zs_6 F F 0 (st_zs_6 t14 t15 l208 l209 l210 l211 l212 l213) (k_zs_6 F n r K)) = (n_zs_6 F (fun t14 l208 l209 l210 l211 l212 l213 => b_zs_5 F n (r + 1) (st_zs_5 t14 l208 l209 l210 l211 l212 l213) K) (fun t14 l208 l209 l210 l211 l212 l213 => K (.exit 4) (st_zs_5 t14 l208 l209 l210 l211 l212 l213))) := by
   funext t14 t15 l208 l209 l210 l211 l212 l213
   exact nl_zs_6 F n r K t14 t15 l208 l209 l210 l211 l212 l213
  rw [step_zs_5, e6, e]
  rfl
theorem nl_zs_5 (F : Nat) (Post : AVal UU → Prop) (t14 : Int) (l208 l209 : zzI) (l210 l211 : zzB) (l212 : zzZ) (l213 : List (List Rect)) : b_zs_5 F F 0 (st_zs_5 t14 l208 l209 l210 l211 l212 l213) (k_zs_5 F Post) = n_zs_5 F (fun r0 r1 => Post (.tup [.newd .rects r0, .int .i64 r1])) t14 l208 l209 l210 l211 l212 l213 := by
 rw [loop_zs_5]
 have h0 : (fun t14 l208 l209 l210 l211 l212 l213 => k_zs_5 F Post (.exit 4) (st_zs_5 t14 l208 l209 l210 l211 l212 l213)) = (fun t14 l208 l209 l210 l211 l212 l213 => g_zs_c5_0 (fun r0 r1 => Post (.tup [.newd .rects r0, .int .i64 r1])) t14 l208 l209 l210 l211 l212 l213) := by
  funext t14 l208 l209 l210 l211 l212 l213
  rw [cont_zs_5_0]
 rw [h0]
 rfl
theorem loop_zs_2 (F : Nat) (K : AEx → ASt UU → Prop) : ∀ (n r : Nat) (t1 : List Seg) (t12 : Int) (l208 l209 : zzI) (l210 l211 : zzB) (l212 : zzZ), b_zs_2 F n r (st_zs_2 t1 t12 l208 l209 l210 l211 l212) K = w_zs_2 F  (fun t1 t12 l208 l209 l210 l211 l212 => K (.exit 2) (st_zs_2 t1 t12 l208 l209 l210 l211 l212)) n t1 t12 l208 l209 l210 l211 l212 := by
 intro n
 induction n with
 | zero => intros; rfl
 | succ n ih =>
  intro r t1 t12 l208 l209 l210 l211 l212
  have e : (fun t1 t12 l208 l209 l210 l211 l212 => b_zs_2 F n (r + 1) (st_zs_2 t1 t12 l208 l209 l210 l211 l212) K) = w_zs_2 F  (fun t1 t12 l208 l209 l210 l211 l212 => K (.exit 2) (st_zs_2 t1 t12 l208 l209 l210 l211 l212)) n := by
   funext t1 t12 l208 l209 l210 l211 l212
   exact ih (r + 1) t1 t12 l208 l209 l210 l211 l212
  have e3 : (fun t4 t5 qcb qcc l208 l209 qao qap qaq qar qba qbb qbc => b_zs_3 F F 0 (st_zs_3 t4 t5 qcb qcc l208 l209 qao qap qaq qar qba qbb qbc) (k_zs_3 F n r K)) = (n_zs_3 F (fun t1 t12 l208 l209 l210 l211 l212 => b_zs_2 F n (r + 1) (st_zs_2 t1 t12 l208 l209 l210 l211 l212) K) (fun t1 t12 l208 l209 l210 l211 l212 => K (.exit 2) (st_zs_2 t1 t12 l208 l209 l210 l211 l212))) := by
   funext t4 t5 qcb qcc l208 l209 qao qap qaq qar qba qbb qbc
   exact nl_zs_3 F n r K t4 t5 qcb qcc l208 l209 qao qap qaq qar qba qbb qbc
  have e4 : (fun t6 t7 qcb qcc l208 l209 qao qap qaq qar qba qbb qbc => b_zs_4 F F 0 (st_zs_4 t6 t7 qcb qcc l208 l209 qao qap qaq qar qba qbb qbc) (k_zs_4 F n r K)) = (n_zs_4 F (fun t1 t12 l208 l209 l210 l211 l212 => b_zs_2 F n (r + 1) (st_zs_2 t1 t12 l208 l209 l210 l211 l212) K) (fun t1 t12 l208 l209 l210 l211 l212 => K (.exit 2) (st_zs_2 t1 t12 l208 l209 l210 l211 l212))) := by
   funext t6 t7 qcb qcc l208 l209 qao qap qaq qar qba qbb qbc
   exact nl_zs_4 F n r K t6 t7 qcb qcc l208 l209 qao qap qaq qar qba qbb qbc
  rw [step_zs_2, e3, e4, e]
  rfl
theorem nl_zs_2 (F : Nat) (Post : AVal UU → Prop) (t1 : List Seg) (t12 : Int) (l208 l209 : zzI) (l210 l211 : zzB) (l212 : zzZ) : b_zs_2 F F 0 (st_zs_2 t1 t12 l208 l209 l210 l211 l212) (k_zs_2 F Post) = n_zs_2 F (fun r0 r1 => Post (.tup [.newd .rects r0, .int .i64 r1])) t1 t12 l208 l209 l210 l211 l212 := by
 rw [loop_zs_2]
 have e5 : (fun t14 l208 l209 l210 l211 l212 l213 => b_zs_5 F F 0 (st_zs_5 t14 l208 l209 l210 l211 l212 l213) (k_zs_5 F Post)) = (n_zs_5 F (fun r0 r1 => Post (.tup [.newd .rects r0, .int .i64 r1]))) := by
  funext t14 l208 l209 l210 l211 l212 l213
  exact nl_zs_5 F Post t14 l208 l209 l210 l211 l212 l213
 have h0 : (fun t1 t12 l208 l209 l210 l211 l212 => k_zs_2 F Post (.exit 2) (st_zs_2 t1 t12 l208 l209 l210 l211 l212)) = (fun t1 t12 l208 l209 l210 l211 l212 => g_zs_c2_0 (fun r0 r1 => Post (.tup [.newd .rects r0, .int .i64 r1])) t1 t12 l208 l209 l210 l211 l212 (n_zs_5 F (fun r0 r1 => Post (.tup [.newd .rects r0, .int .i64 r1])))) := by
  funext t1 t12 l208 l209 l210 l211 l212
  rw [cont_zs_2_0, e5]
 rw [h0]
 rfl
theorem loop_zs_1 (F : Nat) (K : AEx → ASt UU → Prop) : ∀ (n r : Nat) (t6 : Int) (qcb : List Seg) (l208 l209 : zzI) (qax qay : zzB) (qaz : zzZ), b_zs_1 F n r (st_zs_1 t6 qcb l208 l209 qax qay qaz) K = w_zs_1 F  (fun t6 qcb l208 l209 qax qay qaz => K (.exit 0) (st_zs_1 t6 qcb l208 l209 qax qay qaz)) n t6 qcb l208 l209 qax qay qaz := by
 intro n
 induction n with
 | zero => intros; rfl
 | succ n ih =>
  intro r t6 qcb l208 l209 qax qay qaz
  have e : (fun t6 qcb l208 l209 qax qay qaz => b_zs_1 F n (r + 1) (st_zs_1 t6 qcb l208 l209 qax qay qaz) K) = w_zs_1 F  (fun t6 qcb l208 l209 qax qay qaz => K (.exit 0) (st_zs_1 t6 qcb l208 l209 qax qay qaz)) n := by
   funext t6 qcb l208 l209 qax qay qaz
   exact ih (r + 1) t6 qcb l208 l209 qax qay qaz
  rw [step_zs_1, e]
  rfl
theorem nl_zs_1 (F : Nat) (Post : AVal UU → Prop) (t6 : Int) (qcb : List Seg) (l208 l209 : zzI) (qax qay : zzB) (qaz : zzZ) : b_zs_1 F F 0 (st_zs_1 t6 qcb l208 l209 qax qay qaz) (k_zs_1 F Post) = n_zs_1 F (fun r0 r1 => Post (.tup [.newd .rects r0, .int .i64 r1])) t6 qcb l208 l209 qax qay qaz := by
 rw [loop_zs_1]
 have e2 : (fun t1 t12 l208 l209 l210 l211 l212 => b_zs_2 F F 0 (st_zs_2 t1 t12 l208 l209 l210 l211 l212) (k_zs_2 F Post)) = (n_zs_2 F (fun r0 r1 => Post (.tup [.newd .rects r0, .int .i64 r1]))) := by
  funext t1 t12 l208 l209 l210 l211 l212
  exact nl_zs_2 F Post t1 t12 l208 l209 l210 l211 l212
 have h0 : (fun t6 qcb l208 l209 qax qay qaz => k_zs_1 F Post (.exit 0) (st_zs_1 t6 qcb l208 l209 qax qay qaz)) = (fun t6 qcb l208 l209 qax qay qaz => g_zs_c1_0 (fun r0 r1 => Post (.tup [.newd .rects r0, .int .i64 r1])) t6 qcb l208 l209 qax qay qaz (n_zs_2 F (fun r0 r1 => Post (.tup [.newd .rects r0, .int .i64 r1])))) := by
  funext t6 qcb l208 l209 qax qay qaz
  rw [cont_zs_1_0, e2]
 rw [h0]
 rfl
theorem loop_zs_0 (F : Nat) (K : AEx → ASt UU → Prop) : ∀ (n r : Nat) (t1 : List Seg) (t5 t9 : Int) (c2_0 c2_1 : ByteArray) (c2_2 c2_3 c2_4 c2_5 : Int) (c2_6 c2_7 : List Rect) (l208 l209 : zzI), b_zs_0 F n r (st_zs_0 t1 t5 t9 c2_0 c2_1 c2_2 c2_3 c2_4 c2_5 c2_6 c2_7 l208 l209) K = w_zs_0 F  (fun t1 t5 t9 c2_0 c2_1 c2_2 c2_3 c2_4 c2_5 c2_6 c2_7 l208 l209 => K .ret (st_zs_0 t1 t5 t9 c2_0 c2_1 c2_2 c2_3 c2_4 c2_5 c2_6 c2_7 l208 l209)) (fun t1 t5 t9 c2_0 c2_1 c2_2 c2_3 c2_4 c2_5 c2_6 c2_7 l208 l209 => K (.exit 0) (st_zs_0 t1 t5 t9 c2_0 c2_1 c2_2 c2_3 c2_4 c2_5 c2_6 c2_7 l208 l209)) n t1 t5 t9 c2_0 c2_1 c2_2 c2_3 c2_4 c2_5 c2_6 c2_7 l208 l209 := by
 intro n
 induction n with
 | zero => intros; rfl
 | succ n ih =>
  intro r t1 t5 t9 c2_0 c2_1 c2_2 c2_3 c2_4 c2_5 c2_6 c2_7 l208 l209
  have e : (fun t1 t5 t9 c2_0 c2_1 c2_2 c2_3 c2_4 c2_5 c2_6 c2_7 l208 l209 => b_zs_0 F n (r + 1) (st_zs_0 t1 t5 t9 c2_0 c2_1 c2_2 c2_3 c2_4 c2_5 c2_6 c2_7 l208 l209) K) = w_zs_0 F  (fun t1 t5 t9 c2_0 c2_1 c2_2 c2_3 c2_4 c2_5 c2_6 c2_7 l208 l209 => K .ret (st_zs_0 t1 t5 t9 c2_0 c2_1 c2_2 c2_3 c2_4 c2_5 c2_6 c2_7 l208 l209)) (fun t1 t5 t9 c2_0 c2_1 c2_2 c2_3 c2_4 c2_5 c2_6 c2_7 l208 l209 => K (.exit 0) (st_zs_0 t1 t5 t9 c2_0 c2_1 c2_2 c2_3 c2_4 c2_5 c2_6 c2_7 l208 l209)) n := by
   funext t1 t5 t9 c2_0 c2_1 c2_2 c2_3 c2_4 c2_5 c2_6 c2_7 l208 l209
   exact ih (r + 1) t1 t5 t9 c2_0 c2_1 c2_2 c2_3 c2_4 c2_5 c2_6 c2_7 l208 l209
  rw [step_zs_0, e]
  rfl
theorem nl_zs_0 (F : Nat) (Post : AVal UU → Prop) (t1 : List Seg) (t5 t9 : Int) (c2_0 c2_1 : ByteArray) (c2_2 c2_3 c2_4 c2_5 : Int) (c2_6 c2_7 : List Rect) (l208 l209 : zzI) : b_zs_0 F F 0 (st_zs_0 t1 t5 t9 c2_0 c2_1 c2_2 c2_3 c2_4 c2_5 c2_6 c2_7 l208 l209) (k_zs_0 F Post) = n_zs_0 F (fun r0 r1 => Post (.tup [.newd .rects r0, .int .i64 r1])) t1 t5 t9 c2_0 c2_1 c2_2 c2_3 c2_4 c2_5 c2_6 c2_7 l208 l209 := by
 rw [loop_zs_0]
 have e1 : (fun t6 qcb l208 l209 qax qay qaz => b_zs_1 F F 0 (st_zs_1 t6 qcb l208 l209 qax qay qaz) (k_zs_1 F Post)) = (n_zs_1 F (fun r0 r1 => Post (.tup [.newd .rects r0, .int .i64 r1]))) := by
  funext t6 qcb l208 l209 qax qay qaz
  exact nl_zs_1 F Post t6 qcb l208 l209 qax qay qaz
 have h0 : (fun t1 t5 t9 c2_0 c2_1 c2_2 c2_3 c2_4 c2_5 c2_6 c2_7 l208 l209 => k_zs_0 F Post .ret (st_zs_0 t1 t5 t9 c2_0 c2_1 c2_2 c2_3 c2_4 c2_5 c2_6 c2_7 l208 l209)) = (fun t1 t5 t9 c2_0 c2_1 c2_2 c2_3 c2_4 c2_5 c2_6 c2_7 l208 l209 => g_zs_c0_0 (fun r0 r1 => Post (.tup [.newd .rects r0, .int .i64 r1])) t1 t5 t9 c2_0 c2_1 c2_2 c2_3 c2_4 c2_5 c2_6 c2_7 l208 l209) := by
  funext t1 t5 t9 c2_0 c2_1 c2_2 c2_3 c2_4 c2_5 c2_6 c2_7 l208 l209
  rw [cont_zs_0_0]
 have h1 : (fun t1 t5 t9 c2_0 c2_1 c2_2 c2_3 c2_4 c2_5 c2_6 c2_7 l208 l209 => k_zs_0 F Post (.exit 0) (st_zs_0 t1 t5 t9 c2_0 c2_1 c2_2 c2_3 c2_4 c2_5 c2_6 c2_7 l208 l209)) = (fun t1 t5 t9 c2_0 c2_1 c2_2 c2_3 c2_4 c2_5 c2_6 c2_7 l208 l209 => g_zs_c0_1 (fun r0 r1 => Post (.tup [.newd .rects r0, .int .i64 r1])) t1 t5 t9 c2_0 c2_1 c2_2 c2_3 c2_4 c2_5 c2_6 c2_7 l208 l209 (n_zs_1 F (fun r0 r1 => Post (.tup [.newd .rects r0, .int .i64 r1])))) := by
  funext t1 t5 t9 c2_0 c2_1 c2_2 c2_3 c2_4 c2_5 c2_6 c2_7 l208 l209
  rw [cont_zs_0_1, e1]
 rw [h0, h1]
 rfl
theorem exec_zs (F : Nat) (Post : AVal UU → Prop) (qe qf : ByteArray) (qg qh qa qb : Int) (qc qd : List Rect) (a1 : List Seg) : exec (inl3 C_zh).asDeep Tryz.f26.ntmps M_zs F 0 (bo Tryz.f26) (initSt [.agg [.str qe, .str qf, .int .i64 qg, .int .i64 qh, .int .i64 qa, .int .i64 qb, .sl .rect qc, .sl .rect qd], .sl .seg a1]) (AEnds (inl3 C_zh).asDeep true Tryz.f26 Post) = w_zs F qe qf qg qh qa qb qc qd a1 (fun r0 r1 => Post (.tup [.newd .rects r0, .int .i64 r1])) := by
 rw [entry_zs]
 have e0 : (fun t1 t5 t9 c2_0 c2_1 c2_2 c2_3 c2_4 c2_5 c2_6 c2_7 l208 l209 => b_zs_0 F F 0 (st_zs_0 t1 t5 t9 c2_0 c2_1 c2_2 c2_3 c2_4 c2_5 c2_6 c2_7 l208 l209) (k_zs_0 F Post)) = (n_zs_0 F (fun r0 r1 => Post (.tup [.newd .rects r0, .int .i64 r1]))) := by
  funext t1 t5 t9 c2_0 c2_1 c2_2 c2_3 c2_4 c2_5 c2_6 c2_7 l208 l209
  exact nl_zs_0 F Post t1 t5 t9 c2_0 c2_1 c2_2 c2_3 c2_4 c2_5 c2_6 c2_7 l208 l209
 rw [e0]
 rfl
def m_zs : Model UU
 | [.agg [.str qe, .str qf, .int .i64 qg, .int .i64 qh, .int .i64 qa, .int .i64 qb, .sl .rect qc, .sl .rect qd], .sl .seg a1] => some ([pre_zs qe qf qg qh qa qb qc qd a1], .tup [.newd .rects ((sp_zs qe qf qg qh qa qb qc qd a1).1), .int .i64 ((sp_zs qe qf qg qh qa qb qc qd a1).2)])
 | _ => none
def C_zs : Cfg UU := C_zh.add 26 m_zs
theorem s_zs : SumOK C_zs := by
 refine addI3 rfl s_zh mixed (fn := Tryz.f26) (c := bo Tryz.f26) Tryz.func26 (by kernel_rfl) (by kernel_rfl) ?_
 intro xs cs r h hc
 unfold m_zs at h
 split at h
 ·rename_i qe qf qg qh qa qb qc qd a1
  cases h
  obtain ⟨F, hF⟩ := ok_zs qe qf qg qh qa qb qc qd a1 hc
  refine ⟨by kernel_rfl, M_zs, F, true, ⟨?_⟩⟩
  rw [exec_zs]
  refine hF _ ?_
  rfl
 ·cases h
end
end Go.Proofs.YteffpgliiilnjaaGreatDoor
