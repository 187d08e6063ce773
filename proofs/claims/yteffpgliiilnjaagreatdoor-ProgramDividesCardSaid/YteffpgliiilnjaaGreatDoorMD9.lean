/- That ProgramDivides returns true for all inputs, and the tied card. Conditions: none. -/
import Derived.Test.YteffpgliiilnjaaGreatDoorMD4
import Derived.Test.YteffpgliiilnjaaGreatDoorMD8
import Derived.Test.YteffpgliiilnjaaGreatDoorMD6
import Derived.Test.YteffpgliiilnjaaGreatDoorMD7
import Derived.Test.YteffpgliiilnjaaGreatDoorCards
import Derived.Test.YteffpgliiilnjaaGreatDoorTie
import Derived.SevenTiedAt
namespace Go.Proofs.YteffpgliiilnjaaGreatDoor
open Go.Vm Go.ChangeShapes Go.WideShapes Go.ChangeAt Go.RowKit Go.Joins
set_option linter.unusedVariables false
set_option maxRecDepth 100000
noncomputable section
theorem inv1_divs {W : World} (hsh : W.ShapedOpen Tryz.prog) (hL : laidMetH Tryz.prog Rows.programDividesRow.laid W) : inv1 W := by
 have hL' : laidMet Tryz.prog [("math/bits.deBruijn32tab", Rows.laid_math_bits_deBruijn32tab), ("math/bits.deBruijn64tab", Rows.laid_math_bits_deBruijn64tab), ("internal/strconv.uint64pow10", Rows.laid_internal_strconv_uint64pow10)] W ∧ handlesMet Tryz.prog [("errors.errorType", Rows.laid_errors_errorType)] W := hL
 have h3 := hL'.1.tail.tail
 rw [pow_data] at h3
 exact ⟨⟨inv0_of hsh, errT_of hL'.2 (List.mem_singleton.2 rfl)⟩, Lib.tabIs_of_head (g := 1) (t := 294) (by kernel_rfl) (by kernel_rfl) Tryz.underlying294 (by kernel_rfl) (by kernel_rfl) (by kernel_rfl) h3⟩
theorem walk_divs {v0 v1 v2 : Value} {nm mt : ByteArray} {g gr w h : Int} {cl us : List Rect} {l : List Seg} {s : Seg} (W : World) (hi : inv1 W) (hv0 : Rel EE W noOwn (Out' (fun _ => False) W) (AVal.agg [.str nm, .str mt, .int .i64 g, .int .i64 gr, .int .i64 w, .int .i64 h, .sl .rect cl, .sl .rect us] : AVal UU) v0) (hv1 : Rel EE W noOwn (Out' (fun _ => False) W) (AVal.sl .seg l : AVal UU) v1) (hv2 : Rel EE W noOwn (Out' (fun _ => False) W) (AVal.agg [.int .i64 s.X1, .int .i64 s.Y1, .int .i64 s.X2, .int .i64 s.Y2] : AVal UU) v2) :
  Calls Tryz.prog 8 #[v0, v1, v2] W fun e W' => e = .returned (.bool true) ∧ Below W.heap.size W W' := by
 refine law_callsM (fr := false) (C := C_zw.asDeep) (c := bo Tryz.f8) (M := M_za) (fuel := 1000002) (show SumOK C_zw.asDeep from s_zw) mixed Tryz.func8 (by kernel_rfl) (xs := [.agg [.str nm, .str mt, .int .i64 g, .int .i64 gr, .int .i64 w, .int .i64 h, .sl .rect cl, .sl .rect us], .sl .seg l, .agg [.int .i64 s.X1, .int .i64 s.Y1, .int .i64 s.X2, .int .i64 s.Y2]]) hi ⟨rfl, fun k hk => ?_⟩ (by kernel_rfl) ⟨?_⟩
 ·match k, hk with
  | 0, _ => exact hv0
  | 1, _ => exact hv1
  | 2, _ => exact hv2
 ·rw [exec_za]
  refine cast ?_ (law_divides nm mt g gr w h cl us l s.X1 s.Y1 s.X2 s.Y2)
  congr 1
  funext r
  simp
noncomputable def dataDivides : List (String × DataW Unit) := Rows.programDividesRow.laid.filter fun x => x.2.handleName?.isNone
noncomputable def worldDivides (os : Os) : World := (world0 os).layVars Tryz.prog dataDivides
theorem lifted_divs (os : Os) (started : os.Started) (H : Type) (enc : TypeId × Value → H) :
  ReturnsInHanded {} Tryz.checked os 8 .any (fun w args => (Rows.programDividesSpec.pre enc Tryz.prog Tryz.f8 Rows.programDividesRow.domain false w args ∧ laidMetH Tryz.prog Rows.programDividesRow.laid w) ∧ sizedMet enc Tryz.prog Tryz.f8 (OpenSpec.ofChange Rows.programDividesSpec) false w args)
   (Rows.programDividesSpec.post enc Tryz.prog Tryz.f8 false true false false) := by
 refine handed_and_shaped (C := Tryz.checked) (X := fun w _ => laidMetH Tryz.prog Rows.programDividesRow.laid w) (fun _ _ _ hh h => h.of_heap hh) own started (by kernel_rfl) Tryz.func8
  (ChangeSpec.witness_shaped (enc := enc) (C := Tryz.checked) (os := os) (X := fun w _ => laidMetH Tryz.prog Rows.programDividesRow.laid w) false (worldDivides os) #[.agg #[.string ByteArray.empty, .string ByteArray.empty, .int .i64 0, .int .i64 0, .int .i64 0, .int .i64 0, .slice none 0 0, .slice none 0 0], .slice none 0 0, .agg #[.int .i64 0, .int .i64 0, .int .i64 0, .int .i64 0]] 12 ((layVars_os' _ _ _).trans rfl)
   (World.shaped_of_ZipB (by kernel_rfl) (by kernel_rfl)) (by kernel_rfl) (by kernel_rfl) (by kernel_rfl)
   (laidMetH_of_parts (laidMet_of _ (by kernel_rfl) (by kernel_rfl)) (by kernel_rfl))) ?_
 intro W base args ds gs before hval0 hW hL hsh
 have hval : ∀ (j : Nat) t v, Tryz.f8.params[j]? = some t → args[j]? = some v → Value.okWide Tryz.prog W .any base t v := hval0
 have hsh' : W.ShapedOpen Tryz.prog := hsh
 have hW' := hW
 obtain ⟨p, q, hA0, hV, rfl, _, _⟩ := hW
 have hA : DataW.TrodAll enc Tryz.prog W 0 (fun _ => true) true Tryz.f8.params.toList args.toList ds p := hA0
 rw [Tryz.params8] at hA hval
 obtain ⟨v0, vs0, d0, ds0, p0, q0, hargs, rfl, rfl, h0, r0⟩ := trodAll_cons hA
 obtain ⟨v1, vs1, d1, ds1, p1, q1, rfl, rfl, rfl, h1, r1⟩ := trodAll_cons r0
 obtain ⟨v2, vs2, d2, ds2, p2, q2, rfl, rfl, rfl, h2, r2⟩ := trodAll_cons r1
 obtain ⟨rfl, rfl, rfl⟩ := trodAll_nil r2
 obtain rfl : args = #[v0, v1, v2] := by cases args; simp_all
 obtain ⟨nm, mt, g, gr, w, h, cl, us, _, hr0⟩ := open_sheet (hval 0 24 v0 rfl rfl) h0
 obtain ⟨l, hr1⟩ := open_segs (hval 1 26 v1 rfl rfl) h1
 obtain ⟨s, hr2⟩ := open_seg (hval 2 43 v2 rfl rfl) h2
 refine (walk_divs W (inv1_divs hsh' hL) hr0 hr1 hr2).mono fun e W' ⟨he, hb⟩ => ?_
 subst he
 exact ⟨_, rfl, law_post (tb := 4) laidOut (by kernel_rfl) rfl Tryz.underlying4 rfl rfl hW' hb⟩
theorem divs : Rows.ProgramDividesSaid :=
 OpenClaim.holds_of_wide 8 Tryz.f8 rfl rfl rfl rfl rfl rfl rfl ⟨rfl, rfl, rfl, rfl, rfl⟩ rfl rfl rfl rfl rfl (by kernel_rfl) Tryz.func8 closed_divs
  (of_decide_eq_true (by kernel_rfl)) (by unfold Func.isWrapper; first | (rw [if_pos (by decide +kernel)]; kernel_rfl) | (rw [if_neg (by decide +kernel)]; exact ⟨rfl, rfl⟩))
  (fun os started H enc _ => lifted_divs os started H enc)
theorem divsCard : Rows.ProgramDividesCardSaid :=
 Claim7.holds_tied_plain_at .later [] [.data, .data, .data, .handle] true (true, "197df94023b3ee2ebca0cd2fe4d46dd6ddeb1d85c11d0e607dd4c1b498a23b3b") true
  divs (fun _ h => by cases h) (by kernel_rfl) (fun _ h => by cases h) programDivides_row_tie rfl ⟨rfl, rfl⟩ (by kernel_rfl) rfl
  (fun f fn hf hfn => by
   obtain rfl : f = 8 := Option.some.inj ((show Tryz.prog.funcNamed "sheetmetal/sheetmetallaw08.ProgramDivides" = some 8 by kernel_rfl).symm.trans hf) |>.symm
   obtain rfl : fn = Tryz.f8 := (Option.some.inj (Tryz.func8.symm.trans hfn)).symm
   exact ⟨by kernel_rfl, fun j t ht => by
    rw [Tryz.params8] at ht
    have h3 : t = 24 ∨ t = 26 ∨ t = 43 := by
     rcases j with _ | _ | _ | j
     ·have e : t = 24 := by simpa using ht.symm
      simp [e]
     ·have e : t = 26 := by simpa using ht.symm
      simp [e]
     ·have e : t = 43 := by simpa using ht.symm
      simp [e]
     ·simp at ht
    rcases h3 with rfl | rfl | rfl
    ·exact (show Tryz.prog.wantsStandIn 24 = false by kernel_rfl)
    ·exact (show Tryz.prog.wantsStandIn 26 = false by kernel_rfl)
    ·exact (show Tryz.prog.wantsStandIn 43 = false by kernel_rfl)⟩)
  (by kernel_rfl)
end
end Go.Proofs.YteffpgliiilnjaaGreatDoor
