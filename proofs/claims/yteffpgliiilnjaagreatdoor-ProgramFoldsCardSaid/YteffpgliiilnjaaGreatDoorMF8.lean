/- That ProgramFolds returns true for all inputs, and the tied card. Conditions: none. -/
import Derived.Test.YteffpgliiilnjaaGreatDoorMF4
import Derived.Test.YteffpgliiilnjaaGreatDoorMF5
import Derived.Test.YteffpgliiilnjaaGreatDoorMF6
import Derived.Test.YteffpgliiilnjaaGreatDoorMF7
import Derived.Test.YteffpgliiilnjaaGreatDoorCards
import Derived.Test.YteffpgliiilnjaaGreatDoorTie
import Derived.SevenTiedAt
namespace Go.Proofs.YteffpgliiilnjaaGreatDoor
open Go.Vm Go.ChangeShapes Go.WideShapes Go.ChangeAt Go.RowKit Go.Joins
set_option linter.unusedVariables false
set_option maxRecDepth 100000
noncomputable section
theorem inv1_folds {W : World} (hsh : W.ShapedOpen Tryz.prog) (hL : laidMetH Tryz.prog Rows.programFoldsRow.laid W) : inv1 W := by
  have hL' : laidMet Tryz.prog [("math/bits.deBruijn32tab", Rows.laid_math_bits_deBruijn32tab), ("math/bits.deBruijn64tab", Rows.laid_math_bits_deBruijn64tab), ("internal/strconv.uint64pow10", Rows.laid_internal_strconv_uint64pow10)] W ∧ handlesMet Tryz.prog [("errors.errorType", Rows.laid_errors_errorType)] W := hL
  have h3 := hL'.1.tail.tail
  rw [pow_data] at h3
  exact ⟨⟨inv0_of hsh, errT_of hL'.2 (List.mem_singleton.2 rfl)⟩, Lib.tabIs_of_head (g := 1) (t := 294) (by kernel_rfl) (by kernel_rfl) Tryz.underlying294 (by kernel_rfl) (by kernel_rfl) (by kernel_rfl) h3⟩
theorem walk_folds {v0 v1 : Value} {R C M : List Rect} {B : List Bend} {k : Int} (W : World) (hi : inv1 W) (hv0 : Rel EE W noOwn (Out' (fun _ => False) W) (AVal.agg [.sl .rect R, .sl .rect C, .sl .rect M, .sl .bend B] : AVal UU) v0) (hv1 : Rel EE W noOwn (Out' (fun _ => False) W) (AVal.int .i64 k : AVal UU) v1) (hB : sI B) :
    Calls Tryz.prog 5 #[v0, v1] W fun e W' => e = .returned (.bool true) ∧ Below W.heap.size W W' := by
  refine law_callsM (fr := false) (C := C_zr) (c := bo Tryz.f5) (M := M_zf) (fuel := 1) s_zr mixed Tryz.func5 (by kernel_rfl) (xs := [.agg [.sl .rect R, .sl .rect C, .sl .rect M, .sl .bend B], .int .i64 k]) hi ⟨rfl, fun k hk => ?_⟩ (by kernel_rfl) ⟨?_⟩
  · match k, hk with
    | 0, _ => exact hv0
    | 1, _ => exact hv1
  · rw [exec_zf]
    refine cast ?_ (law_folds R C M B k hB)
    congr 1
    funext r
    simp
noncomputable def dataFolds : List (String × DataW Unit) := Rows.programFoldsRow.laid.filter fun x => x.2.handleName?.isNone
noncomputable def worldFolds (os : Os) : World := (world0 os).layVars Tryz.prog dataFolds
theorem lifted_folds (os : Os) (started : os.Started) (H : Type) (enc : TypeId × Value → H) :
    ReturnsInHanded {} Tryz.checked os 5 .any (fun w args => (Rows.programFoldsSpec.pre enc Tryz.prog Tryz.f5 Rows.programFoldsRow.domain false w args ∧ laidMetH Tryz.prog Rows.programFoldsRow.laid w) ∧ sizedMet enc Tryz.prog Tryz.f5 (OpenSpec.ofChange Rows.programFoldsSpec) false w args)
      (Rows.programFoldsSpec.post enc Tryz.prog Tryz.f5 false true false false) := by
  refine handed_and_shaped (C := Tryz.checked) (X := fun w _ => laidMetH Tryz.prog Rows.programFoldsRow.laid w) (fun _ _ _ hh h => h.of_heap hh) own started (by kernel_rfl) Tryz.func5
    (ChangeSpec.witness_shaped (enc := enc) (C := Tryz.checked) (os := os) (X := fun w _ => laidMetH Tryz.prog Rows.programFoldsRow.laid w) false (worldFolds os) #[.agg #[.slice none 0 0, .slice none 0 0, .slice none 0 0, .slice none 0 0], .int .i64 0] 12 ((layVars_os' _ _ _).trans rfl)
      (World.shaped_of_ZipB (by kernel_rfl) (by kernel_rfl)) (by kernel_rfl) (by kernel_rfl) (by kernel_rfl)
      (laidMetH_of_parts (laidMet_of _ (by kernel_rfl) (by kernel_rfl)) (by kernel_rfl))) ?_
  intro W base args ds gs before hval0 hW hL hsh
  have hval : ∀ (j : Nat) t v, Tryz.f5.params[j]? = some t → args[j]? = some v → Value.okWide Tryz.prog W .any base t v := hval0
  have hsh' : W.ShapedOpen Tryz.prog := hsh
  have hW' := hW
  obtain ⟨p, q, hA0, hV, rfl, _, _⟩ := hW
  have hA : DataW.TrodAll enc Tryz.prog W 0 (fun _ => true) true Tryz.f5.params.toList args.toList ds p := hA0
  rw [Tryz.params5] at hA hval
  obtain ⟨v0, vs0, d0, ds0, p0, q0, hargs, rfl, rfl, h0, r0⟩ := trodAll_cons hA
  obtain ⟨v1, vs1, d1, ds1, p1, q1, rfl, rfl, rfl, h1, r1⟩ := trodAll_cons r0
  obtain ⟨rfl, rfl, rfl⟩ := trodAll_nil r1
  obtain rfl : args = #[v0, v1] := by cases args; simp_all
  obtain ⟨R, C, M, B, hB, hr0⟩ := open_flat (hval 0 47 v0 rfl rfl) h0
  obtain ⟨k, hr1⟩ := open_int (hval 1 3 v1 rfl rfl) h1
  refine (walk_folds W (inv1_folds hsh' hL) hr0 hr1 hB).mono fun e W' ⟨he, hb⟩ => ?_
  subst he
  exact ⟨_, rfl, law_post (tb := 4) laidOut (by kernel_rfl) rfl Tryz.underlying4 rfl rfl hW' hb⟩
theorem folds : Rows.ProgramFoldsSaid :=
  OpenClaim.holds_of_wide 5 Tryz.f5 rfl rfl rfl rfl rfl rfl rfl ⟨rfl, rfl, rfl, rfl, rfl⟩ rfl rfl rfl rfl rfl (by kernel_rfl) Tryz.func5 (by kernel_rfl)
    (of_decide_eq_true (by kernel_rfl)) (by unfold Func.isWrapper; first | (rw [if_pos (by decide +kernel)]; kernel_rfl) | (rw [if_neg (by decide +kernel)]; exact ⟨rfl, rfl⟩))
    (fun os started H enc _ => lifted_folds os started H enc)
theorem foldsCard : Rows.ProgramFoldsCardSaid :=
  Claim7.holds_tied_plain_at .later [] [.data, .data, .data, .handle] true (true, "197df94023b3ee2ebca0cd2fe4d46dd6ddeb1d85c11d0e607dd4c1b498a23b3b") true
    folds (fun _ h => by cases h) (by kernel_rfl) (fun _ h => by cases h) programFolds_row_tie rfl ⟨rfl, rfl⟩ (by kernel_rfl) rfl
    (fun f fn hf hfn => by
      obtain rfl : f = 5 := Option.some.inj ((show Tryz.prog.funcNamed "sheetmetal/sheetmetallaw08.ProgramFolds" = some 5 by kernel_rfl).symm.trans hf) |>.symm
      obtain rfl : fn = Tryz.f5 := (Option.some.inj (Tryz.func5.symm.trans hfn)).symm
      exact ⟨by kernel_rfl, fun j t ht => by
        rw [Tryz.params5] at ht
        have h3 : t = 3 ∨ t = 47 := by
          rcases j with _ | _ | j
          · have e : t = 47 := by simpa using ht.symm
            simp [e]
          · have e : t = 3 := by simpa using ht.symm
            simp [e]
          · simp at ht
        rcases h3 with rfl | rfl
        · exact (show Tryz.prog.wantsStandIn 3 = false by kernel_rfl)
        · exact (show Tryz.prog.wantsStandIn 47 = false by kernel_rfl)⟩)
    (by kernel_rfl)
end
end Go.Proofs.YteffpgliiilnjaaGreatDoor
