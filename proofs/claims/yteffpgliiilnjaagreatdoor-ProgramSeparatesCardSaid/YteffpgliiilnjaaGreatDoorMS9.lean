/- That ProgramSeparates returns true for all inputs, and the tied card. Conditions: none. -/
import Derived.Test.YteffpgliiilnjaaGreatDoorMS4
import Derived.Test.YteffpgliiilnjaaGreatDoorMS8
import Derived.Test.YteffpgliiilnjaaGreatDoorMS5
import Derived.Test.YteffpgliiilnjaaGreatDoorMS7
import Derived.Test.YteffpgliiilnjaaGreatDoorCards
import Derived.Test.YteffpgliiilnjaaGreatDoorTie
import Derived.SevenTiedAt
namespace Go.Proofs.YteffpgliiilnjaaGreatDoor
open Go.Vm Go.ChangeShapes Go.WideShapes Go.ChangeAt Go.RowKit Go.Joins
set_option linter.unusedVariables false
set_option maxRecDepth 100000
noncomputable section
theorem inv1_sepr {W : World} (hsh : W.ShapedOpen Tryz.prog) (hL : laidMetH Tryz.prog Rows.programSeparatesRow.laid W) : inv1 W := by
 have hL' : laidMet Tryz.prog [("math/bits.deBruijn32tab", Rows.laid_math_bits_deBruijn32tab), ("math/bits.deBruijn64tab", Rows.laid_math_bits_deBruijn64tab), ("internal/strconv.uint64pow10", Rows.laid_internal_strconv_uint64pow10)] W ∧ handlesMet Tryz.prog [("errors.errorType", Rows.laid_errors_errorType)] W := hL
 have h3 := hL'.1.tail.tail
 rw [pow_data] at h3
 exact ⟨⟨inv0_of hsh, errT_of hL'.2 (List.mem_singleton.2 rfl)⟩, Lib.tabIs_of_head (g := 1) (t := 294) (by kernel_rfl) (by kernel_rfl) Tryz.underlying294 (by kernel_rfl) (by kernel_rfl) (by kernel_rfl) h3⟩
theorem walk_sepr {v0 v1 : Value} {nm mt : ByteArray} {g gr w h : Int} {cl us : List Rect} {l : List Seg} (W : World) (hi : inv1 W) (hv0 : Rel EE W noOwn (Out' (fun _ => False) W) (AVal.agg [.str nm, .str mt, .int .i64 g, .int .i64 gr, .int .i64 w, .int .i64 h, .sl .rect cl, .sl .rect us] : AVal UU) v0) (hv1 : Rel EE W noOwn (Out' (fun _ => False) W) (AVal.sl .seg l : AVal UU) v1) :
  Calls Tryz.prog 7 #[v0, v1] W fun e W' => e = .returned (.bool true) ∧ Below W.heap.size W W' := by
 refine law_callsM (fr := false) (C := C_zo) (c := bo Tryz.f7) (M := M_za) (fuel := 1) s_zo mixed Tryz.func7 (by kernel_rfl) (xs := [.agg [.str nm, .str mt, .int .i64 g, .int .i64 gr, .int .i64 w, .int .i64 h, .sl .rect cl, .sl .rect us], .sl .seg l]) hi ⟨rfl, fun k hk => ?_⟩ (by kernel_rfl) ⟨?_⟩
 ·match k, hk with
  | 0, _ => exact hv0
  | 1, _ => exact hv1
 ·rw [exec_za]
  refine cast ?_ (law_separates 1 nm mt g gr w h cl us l)
  congr 1
  funext r
  simp
noncomputable def dataSeparates : List (String × DataW Unit) := Rows.programSeparatesRow.laid.filter fun x => x.2.handleName?.isNone
noncomputable def worldSeparates (os : Os) : World := (world0 os).layVars Tryz.prog dataSeparates
theorem lifted_sepr (os : Os) (started : os.Started) (H : Type) (enc : TypeId × Value → H) :
  ReturnsInHanded {} Tryz.checked os 7 .any (fun w args => (Rows.programSeparatesSpec.pre enc Tryz.prog Tryz.f7 Rows.programSeparatesRow.domain false w args ∧ laidMetH Tryz.prog Rows.programSeparatesRow.laid w) ∧ sizedMet enc Tryz.prog Tryz.f7 (OpenSpec.ofChange Rows.programSeparatesSpec) false w args)
   (Rows.programSeparatesSpec.post enc Tryz.prog Tryz.f7 false true false false) := by
 refine handed_and_shaped (C := Tryz.checked) (X := fun w _ => laidMetH Tryz.prog Rows.programSeparatesRow.laid w) (fun _ _ _ hh h => h.of_heap hh) own started (by kernel_rfl) Tryz.func7
  (ChangeSpec.witness_shaped (enc := enc) (C := Tryz.checked) (os := os) (X := fun w _ => laidMetH Tryz.prog Rows.programSeparatesRow.laid w) false (worldSeparates os) #[.agg #[.string ByteArray.empty, .string ByteArray.empty, .int .i64 0, .int .i64 0, .int .i64 0, .int .i64 0, .slice none 0 0, .slice none 0 0], .slice none 0 0] 12 ((layVars_os' _ _ _).trans rfl)
   (World.shaped_of_ZipB (by kernel_rfl) (by kernel_rfl)) (by kernel_rfl) (by kernel_rfl) (by kernel_rfl)
   (laidMetH_of_parts (laidMet_of _ (by kernel_rfl) (by kernel_rfl)) (by kernel_rfl))) ?_
 intro W base args ds gs before hval0 hW hL hsh
 have hval : ∀ (j : Nat) t v, Tryz.f7.params[j]? = some t → args[j]? = some v → Value.okWide Tryz.prog W .any base t v := hval0
 have hsh' : W.ShapedOpen Tryz.prog := hsh
 have hW' := hW
 obtain ⟨p, q, hA0, hV, rfl, _, _⟩ := hW
 have hA : DataW.TrodAll enc Tryz.prog W 0 (fun _ => true) true Tryz.f7.params.toList args.toList ds p := hA0
 rw [Tryz.params7] at hA hval
 obtain ⟨v0, vs0, d0, ds0, p0, q0, hargs, rfl, rfl, h0, r0⟩ := trodAll_cons hA
 obtain ⟨v1, vs1, d1, ds1, p1, q1, rfl, rfl, rfl, h1, r1⟩ := trodAll_cons r0
 obtain ⟨rfl, rfl, rfl⟩ := trodAll_nil r1
 obtain rfl : args = #[v0, v1] := by cases args; simp_all
 obtain ⟨nm, mt, g, gr, w, h, cl, us, _, hr0⟩ := open_sheet (hval 0 24 v0 rfl rfl) h0
 obtain ⟨l, hr1⟩ := open_segs (hval 1 26 v1 rfl rfl) h1
 refine (walk_sepr W (inv1_sepr hsh' hL) hr0 hr1).mono fun e W' ⟨he, hb⟩ => ?_
 subst he
 exact ⟨_, rfl, law_post (tb := 4) laidOut (by kernel_rfl) rfl Tryz.underlying4 rfl rfl hW' hb⟩
theorem sepr : Rows.ProgramSeparatesSaid :=
 OpenClaim.holds_of_wide 7 Tryz.f7 rfl rfl rfl rfl rfl rfl rfl ⟨rfl, rfl, rfl, rfl, rfl⟩ rfl rfl rfl rfl rfl (by kernel_rfl) Tryz.func7 closed_sepr
  (of_decide_eq_true (by kernel_rfl)) (by unfold Func.isWrapper; first | (rw [if_pos (by decide +kernel)]; kernel_rfl) | (rw [if_neg (by decide +kernel)]; exact ⟨rfl, rfl⟩))
  (fun os started H enc _ => lifted_sepr os started H enc)
theorem seprCard : Rows.ProgramSeparatesCardSaid :=
 Claim7.holds_tied_plain_at .later [] [.data, .data, .data, .handle] true (true, "197df94023b3ee2ebca0cd2fe4d46dd6ddeb1d85c11d0e607dd4c1b498a23b3b") true
  sepr (fun _ h => by cases h) (by kernel_rfl) (fun _ h => by cases h) programSeparates_row_tie rfl ⟨rfl, rfl⟩ (by kernel_rfl) rfl
  (fun f fn hf hfn => by
   obtain rfl : f = 7 := Option.some.inj ((show Tryz.prog.funcNamed "sheetmetal/sheetmetallaw08.ProgramSeparates" = some 7 by kernel_rfl).symm.trans hf) |>.symm
   obtain rfl : fn = Tryz.f7 := (Option.some.inj (Tryz.func7.symm.trans hfn)).symm
   exact ⟨by kernel_rfl, fun j t ht => by
    rw [Tryz.params7] at ht
    have h3 : t = 24 ∨ t = 26 := by
     rcases j with _ | _ | j
     ·have e : t = 24 := by simpa using ht.symm
      simp [e]
     ·have e : t = 26 := by simpa using ht.symm
      simp [e]
     ·simp at ht
    rcases h3 with rfl | rfl
    ·exact (show Tryz.prog.wantsStandIn 24 = false by kernel_rfl)
    ·exact (show Tryz.prog.wantsStandIn 26 = false by kernel_rfl)⟩)
  (by kernel_rfl)
end
end Go.Proofs.YteffpgliiilnjaaGreatDoor
