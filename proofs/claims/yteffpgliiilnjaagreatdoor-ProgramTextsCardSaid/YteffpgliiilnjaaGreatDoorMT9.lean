/- That ProgramTexts returns true for all inputs, and the tied card. Conditions: none. -/
import Derived.Test.YteffpgliiilnjaaGreatDoorMT4
import Derived.Test.YteffpgliiilnjaaGreatDoorMT8
import Derived.Test.YteffpgliiilnjaaGreatDoorMT7
import Derived.Test.YteffpgliiilnjaaGreatDoorCards
import Derived.Test.YteffpgliiilnjaaGreatDoorTie
import Derived.SevenTiedAt
namespace Go.Proofs.YteffpgliiilnjaaGreatDoor
open Go.Vm Go.ChangeShapes Go.WideShapes Go.ChangeAt Go.RowKit Go.Joins
set_option linter.unusedVariables false
set_option maxRecDepth 100000
noncomputable section
theorem aTm {W : World} (hsh : W.ShapedOpen Tryz.prog) (hL : laidMetH Tryz.prog Rows.programTextsRow.laid W) : inv2 W := by
 have hL' : laidMet Tryz.prog [("math/bits.deBruijn32tab", Rows.laid_math_bits_deBruijn32tab), ("math/bits.deBruijn64tab", Rows.laid_math_bits_deBruijn64tab), ("internal/strconv.uint64pow10", Rows.laid_internal_strconv_uint64pow10), ("unicode/utf8.acceptRanges", Rows.laid_unicode_utf8_acceptRanges), ("strconv.ErrRange", Rows.laid_strconv_ErrRange), ("strconv.ErrSyntax", Rows.laid_strconv_ErrSyntax), ("unicode/utf8.first", Rows.laid_unicode_utf8_first)] W ∧ handlesMet Tryz.prog [("errors.errorType", Rows.laid_errors_errorType)] W := hL
 have h3 := hL'.1.tail.tail
 have h5 := h3.tail.tail
 have h6 := h5.tail
 rw [aPz] at h3
 refine ⟨⟨⟨aTp hsh, aVz hL'.2 (List.mem_singleton.2 rfl)⟩, Lib.tabIs_of_head (g := 1) (t := 294) (by kernel_rfl) (by kernel_rfl) Tryz.underlying294 (by kernel_rfl) (by kernel_rfl) (by kernel_rfl) h3⟩, ?_, ?_⟩
 ·exact aKy (g := 3) (ti := 73) (by kernel_rfl) (by kernel_rfl) Tryz.underlying73 h6
 ·exact aKy (g := 4) (ti := 73) (by kernel_rfl) (by kernel_rfl) Tryz.underlying73 h5
theorem aND {v0 v1 v2 : Value} {k : Int} {l : List Opn} {t : ByteArray} (W : World) (hi : inv2 W) (hv0 : Rel EE W dG (eC (fun _ => False) W) (aA.int .i64 k : aA UU) v0) (iW : Rel EE W dG (eC (fun _ => False) W) (aA.sl .op l : aA UU) v1) (gL : Rel EE W dG (eC (fun _ => False) W) (aA.str t : aA UU) v2) :
  Calls Tryz.prog 6 #[v0, v1, v2] W fun e W' => e = .returned (.bool true) ∧ Below W.heap.size W W' := by
 refine aT2 (fr := false) (C := yV) (c := bo Tryz.f6) (M := aHM) (fuel := 1) aPE mixed Tryz.func6 (by kernel_rfl) (xs := [.int .i64 k, .sl .op l, .str t]) hi ⟨rfl, fun k hk => ?_⟩ (by kernel_rfl) ⟨?_⟩
 ·match k, hk with
  | 0, _ => exact hv0
  | 1, _ => exact iW
  | 2, _ => exact gL
 ·rw [aVC]
  refine cast ?_ (aT0 k l t)
  congr 1
  funext r
  simp
noncomputable def aXx : List (String × DataW Unit) := Rows.programTextsRow.laid.filter fun x => x.2.handleName?.isNone
noncomputable def aMu (os : Os) : World := (aMv os).layVars Tryz.prog aXx
theorem aTF (os : Os) (started : os.Started) (H : Type) (enc : TypeId × Value → H) :
  ReturnsInHanded {} Tryz.checked os 6 .any (fun w args => (Rows.programTextsSpec.pre enc Tryz.prog Tryz.f6 Rows.programTextsRow.domain false w args ∧ laidMetH Tryz.prog Rows.programTextsRow.laid w) ∧ sizedMet enc Tryz.prog Tryz.f6 (OpenSpec.ofChange Rows.programTextsSpec) false w args)
   (Rows.programTextsSpec.post enc Tryz.prog Tryz.f6 false true false false) := by
 refine aUP (C := Tryz.checked) (X := fun w _ => laidMetH Tryz.prog Rows.programTextsRow.laid w) (fun _ _ _ hh h => h.of_heap hh) own started (by kernel_rfl) Tryz.func6
  (ChangeSpec.witness_shaped (enc := enc) (C := Tryz.checked) (os := os) (X := fun w _ => laidMetH Tryz.prog Rows.programTextsRow.laid w) false (aMu os) #[.int .i64 0, .slice none 0 0, .string ByteArray.empty] 12 ((aTZ _ _ _).trans rfl)
   (World.shaped_of_ZipB (by kernel_rfl) (by kernel_rfl)) (by kernel_rfl) (by kernel_rfl) (by kernel_rfl)
   (laidMetH_of_parts (aT3 _ (by kernel_rfl) (by kernel_rfl)) (by kernel_rfl))) ?_
 intro W base args ds gs before hval0 hW hL hsh
 have hval : ∀ (j : Nat) t v, Tryz.f6.params[j]? = some t → args[j]? = some v → Value.okWide Tryz.prog W .any base t v := hval0
 have hsh' : W.ShapedOpen Tryz.prog := hsh
 have hW' := hW
 obtain ⟨p, q, hA0, hV, rfl, _, _⟩ := hW
 have hA : DataW.TrodAll enc Tryz.prog W 0 (fun _ => true) true Tryz.f6.params.toList args.toList ds p := hA0
 rw [Tryz.params6] at hA hval
 obtain ⟨v0, vs0, d0, ds0, p0, q0, hargs, rfl, rfl, h0, r0⟩ := trodAll_cons hA
 obtain ⟨v1, vs1, d1, ds1, p1, q1, rfl, rfl, rfl, h1, r1⟩ := trodAll_cons r0
 obtain ⟨v2, vs2, d2, oE, p2, q2, rfl, rfl, rfl, h2, r2⟩ := trodAll_cons r1
 obtain ⟨rfl, rfl, rfl⟩ := trodAll_nil r2
 obtain rfl : args = #[v0, v1, v2] := by cases args; simp_all
 obtain ⟨k, jE⟩ := open_int (hval 0 3 v0 rfl rfl) h0
 obtain ⟨l, dL⟩ := aQ3 (hval 1 25 v1 rfl rfl) h1
 obtain ⟨t, hM⟩ := aQ2 (hval 2 9 v2 rfl rfl) h2
 refine (aND W (aTm hsh' hL) jE dL hM).mono fun e W' ⟨he, hb⟩ => ?_
 subst he
 exact ⟨_, rfl, aT1 (tb := 4) laidOut (by kernel_rfl) rfl Tryz.underlying4 rfl rfl hW' hb⟩
theorem aNT : Rows.ProgramTextsSaid :=
 OpenClaim.holds_of_wide 6 Tryz.f6 rfl rfl rfl rfl rfl rfl rfl ⟨rfl, rfl, rfl, rfl, rfl⟩ rfl rfl rfl rfl rfl (by kernel_rfl) Tryz.func6 aYp
  (of_decide_eq_true (by kernel_rfl)) (by unfold Func.isWrapper; first | (rw [if_pos (by decide +kernel)]; kernel_rfl) | (rw [if_neg (by decide +kernel)]; exact ⟨rfl, rfl⟩))
  (fun os started H enc _ => aTF os started H enc)
theorem txtsCard : Rows.ProgramTextsCardSaid :=
 Claim7.holds_tied_plain_at .later [] [.data, .data, .data, .data, .handle, .sentinel, .sentinel, .pinned] true (true, "197df94023b3ee2ebca0cd2fe4d46dd6ddeb1d85c11d0e607dd4c1b498a23b3b") true
  aNT (fun _ h => by cases h) (by kernel_rfl) (fun _ h => by cases h) programTexts_row_tie rfl ⟨rfl, rfl⟩ (by kernel_rfl) rfl
  (fun f fn hf hfn => by
   obtain rfl : f = 6 := Option.some.inj ((show Tryz.prog.funcNamed "sheetmetal/sheetmetallaw08.ProgramTexts" = some 6 by kernel_rfl).symm.trans hf) |>.symm
   obtain rfl : fn = Tryz.f6 := (Option.some.inj (Tryz.func6.symm.trans hfn)).symm
   exact ⟨by kernel_rfl, fun j t ht => by
    rw [Tryz.params6] at ht
    have h3 : t = 3 ∨ t = 9 ∨ t = 25 := by
     rcases j with _ | _ | _ | j
     ·have e : t = 3 := by simpa using ht.symm
      simp [e]
     ·have e : t = 25 := by simpa using ht.symm
      simp [e]
     ·have e : t = 9 := by simpa using ht.symm
      simp [e]
     ·simp at ht
    rcases h3 with rfl | rfl | rfl
    ·exact (show Tryz.prog.wantsStandIn 3 = false by kernel_rfl)
    ·exact (show Tryz.prog.wantsStandIn 9 = false by kernel_rfl)
    ·exact (show Tryz.prog.wantsStandIn 25 = false by kernel_rfl)⟩)
  (by kernel_rfl)
end
end Go.Proofs.YteffpgliiilnjaaGreatDoor
