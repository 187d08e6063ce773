/- That FlatSettles returns true for all patterns and turns. Conditions: none. -/
import Derived.Test.YtohecfbnmmgimaaHQ
import Derived.Test.YtohecfbnmmgimaaTP
import Derived.Test.YtohecfbnmmgimaaRows
import Derived.HandedShaped
namespace Go.Proofs.Ytohecfbnmmgimaa
open Go.Vm Go.ChangeShapes Go.WideShapes Go.ChangeAt Go.RowKit Go.Joins
set_option linter.unusedVariables false
noncomputable section

theorem own : ownKnob Try.prog.godebug = none := by kernel_rfl
theorem laidOut : laidOutB Try.prog = true := by kernel_rfl
theorem inv_of {W : World} (h : W.ShapedOpen Try.prog) : inv0 W := Try.laysM144.s1_3 W h

theorem rect_all (ns : List Int) (h : ns.length = UU.size .rect) : ∃ z : UU.T .rect, EE.enc .rect z = ns.map (AVal.int .i64) := by
  match ns, h with
  | [a, b, c, d], _ => exact ⟨Rect.mk a b c d, rfl⟩
theorem bend_all (ns : List Int) (h : ns.length = UU.size .bend) : ∃ z : UU.T .bend, EE.enc .bend z = ns.map (AVal.int .i64) := by
  match ns, h with
  | [a, b, c, d, e, f, g, k], _ => exact ⟨Bend.mk a b c d e f g k, rfl⟩
theorem opens_rect {C : Cfg UU} (hP : C.P = Try.prog) (hE : C.E = EE) {H : Type} {enc : TypeId × Value → H} {W : World} : Opens C enc W 30 .rect := by
  obtain ⟨P, E, elt, sum, plain, plainOK, inv, invOK⟩ := C
  obtain rfl : P = Try.prog := hP
  obtain rfl : E = EE := hE
  exact opens_ints 5 (by kernel_rfl) (by kernel_rfl) (by kernel_rfl) (by kernel_rfl) rect_all
theorem opens_bend {C : Cfg UU} (hP : C.P = Try.prog) (hE : C.E = EE) {H : Type} {enc : TypeId × Value → H} {W : World} : Opens C enc W 60 .bend := by
  obtain ⟨P, E, elt, sum, plain, plainOK, inv, invOK⟩ := C
  obtain rfl : P = Try.prog := hP
  obtain rfl : E = EE := hE
  exact opens_ints 5 (by kernel_rfl) (by kernel_rfl) (by kernel_rfl) (by kernel_rfl) bend_all

set_option maxRecDepth 100000 in
/-- A pattern that came in. -/
theorem open_flat {H : Type} {enc : TypeId × Value → H} {W : World} {base : Nat} {v : Value} {x : DataW H} {ps : List MemPlace} (hok : Value.okWide Try.prog W .any base 25 v) (h : DataW.Trod enc Try.prog W 0 (fun _ => true) true 25 v x ps) :
    ∃ (R C M : List Rect) (B : List Bend), Rel EE W noOwn (Out' (fun _ => False) W) (AVal.agg [.sl .rect R, .sl .rect C, .sl .rect M, .sl .bend B] : AVal UU) v := by
  obtain ⟨zs, h1, h2, h3⟩ := open_agg (C := C_base) (d := 5) (t := 25) (fun u hu => by
    have hl : leafTys Try.prog 5 25 = [22, 22, 22, 23] := by kernel_rfl
    have hu' : u ∈ [22, 22, 22, 23] := hl ▸ hu
    have h22 : leafKind C_base.P 22 = true ∧ ∀ e, C_base.P.underlying 22 = some (.slice e) → ∃ τ, C_base.elt e = some τ ∧ Opens C_base enc W e τ := by
      refine ⟨by kernel_rfl, fun e he => ?_⟩
      rw [show C_base.P.underlying 22 = _ from Try.underlying22] at he
      cases he
      exact ⟨.rect, by kernel_rfl, opens_rect (by kernel_rfl) (by kernel_rfl)⟩
    simp only [List.mem_cons, List.not_mem_nil, or_false] at hu'
    rcases hu' with rfl | rfl | rfl | rfl
    · exact h22
    · exact h22
    · exact h22
    · refine ⟨by kernel_rfl, fun e he => ?_⟩
      rw [show C_base.P.underlying 23 = _ from Try.underlying23] at he
      cases he
      exact ⟨.bend, by kernel_rfl, opens_bend (by kernel_rfl) (by kernel_rfl)⟩) (by kernel_rfl) (by kernel_rfl) (by kernel_rfl) hok h
  have hl : leafTys C_base.P 5 25 = [22, 22, 22, 23] := by kernel_rfl
  simp only [hl] at h1 h2
  match zs, h1 with
  | [a0, a1, a2, a3], _ =>
    have f0 := h2 0 (by simp) (by simp)
    have f1 := h2 1 (by simp) (by simp)
    have f2 := h2 2 (by simp) (by simp)
    have f3 := h2 3 (by simp) (by simp)
    simp only [List.getElem_cons_zero, List.getElem_cons_succ, Fits] at f0 f1 f2 f3
    rw [show C_base.P.underlying 22 = _ from Try.underlying22] at f0 f1 f2
    rw [show C_base.P.underlying 23 = _ from Try.underlying23] at f3
    obtain ⟨τ0, R, hτ0, rfl, _⟩ := f0
    obtain ⟨τ1, C, hτ1, rfl, _⟩ := f1
    obtain ⟨τ2, M, hτ2, rfl, _⟩ := f2
    obtain ⟨τ3, B, hτ3, rfl, _⟩ := f3
    have hr : C_base.elt 30 = some .rect := by kernel_rfl
    have hb : C_base.elt 60 = some .bend := by kernel_rfl
    obtain rfl : Knd.rect = τ0 := Option.some.inj (hr.symm.trans hτ0)
    obtain rfl : Knd.rect = τ1 := Option.some.inj (hr.symm.trans hτ1)
    obtain rfl : Knd.rect = τ2 := Option.some.inj (hr.symm.trans hτ2)
    obtain rfl : Knd.bend = τ3 := Option.some.inj (hb.symm.trans hτ3)
    exact ⟨R, C, M, B, h3⟩

set_option maxRecDepth 100000 in
theorem walk3 {v : Value} {R C M : List Rect} {B : List Bend} {a : Int} (W : World) (hi : inv0 W) (hr : Rel EE W noOwn (Out' (fun _ => False) W) (AVal.agg [.sl .rect R, .sl .rect C, .sl .rect M, .sl .bend B] : AVal UU) v) :
    Calls Try.prog 3 #[v, .int .i64 a] W fun e W' => e = .returned (.bool true) ∧ Below W.heap.size W W' := by
  refine law_callsM (fr := false) (C := C_law03_Long) (c := bo Try.f3) (M := M_law03_FlatSettles) (fuel := 1001) s_law03_Long mixed Try.func3 (by kernel_rfl) (xs := [.agg [.sl .rect R, .sl .rect C, .sl .rect M, .sl .bend B], .int .i64 a]) hi ⟨rfl, fun k hk => ?_⟩ (by kernel_rfl) ⟨?_⟩
  · match k, hk with
    | 0, _ => exact hr
    | 1, _ => exact .int _ _
  · rw [exec_law03_FlatSettles]
    refine cast ?_ (law_settles R C M B a)
    congr 1
    funext r
    simp
set_option maxRecDepth 100000 in
theorem lifted3 (os : Os) (started : os.Started) (H : Type) (enc : TypeId × Value → H) :
    ReturnsInHanded {} Try.checked os 3 .any (Rows.flatSettlesSpec.pre6 enc Try.prog Try.f3 Rows.flatSettlesRow.domain false) (Rows.flatSettlesSpec.post enc Try.prog Try.f3 false true false false) := by
  refine returnsInHanded_of_change_shaped (C := Try.checked) own started (by kernel_rfl) Try.func3
    (ChangeSpec.witness6 (enc := enc) (C := Try.checked) false ⟨#[], #[.agg #[.slice none 0 0, .slice none 0 0, .slice none 0 0, .slice none 0 0], .int .i64 0], []⟩ 8 (by kernel_rfl) (by kernel_rfl) (by kernel_rfl) (by kernel_rfl)) ?_
  intro W base args ds gs before hval0 hW _ _ hsh _
  have hval : ∀ (j : Nat) t v, Try.f3.params[j]? = some t → args[j]? = some v → Value.okWide Try.prog W .any base t v := hval0
  have hsh' : W.ShapedOpen Try.prog := hsh
  have hW' := hW
  obtain ⟨p, q, hA0, hV, rfl, _, _⟩ := hW
  have hA : DataW.TrodAll enc Try.prog W 0 (fun _ => true) true Try.f3.params.toList args.toList ds p := hA0
  rw [Try.params3] at hA hval
  obtain ⟨v0, vs0, d0, ds0, p0, q0, hargs, rfl, rfl, h0, r0⟩ := trodAll_cons hA
  obtain ⟨v1, vs1, d1, ds1, p1, q1, rfl, rfl, rfl, h1, r1⟩ := trodAll_cons r0
  obtain ⟨rfl, rfl, rfl⟩ := trodAll_nil r1
  obtain rfl : args = #[v0, v1] := by cases args; simp_all
  obtain ⟨R, C, M, B, hr⟩ := open_flat (hval 0 25 v0 rfl rfl) h0
  obtain ⟨n, rfl, _⟩ := open_int Try.underlying3 (hval 1 3 v1 rfl rfl) h1
  refine (walk3 W (inv_of hsh') hr).mono fun e W' ⟨he, hb⟩ => ?_
  subst he
  exact ⟨_, rfl, law_post (tb := 4) laidOut (by kernel_rfl) rfl Try.underlying4 rfl rfl hW' hb⟩

theorem settles : Rows.FlatSettlesSaid :=
  OpenClaim.holds_of_wide 3 Try.f3 rfl rfl rfl rfl rfl rfl rfl ⟨rfl, rfl, rfl, rfl, rfl⟩ rfl rfl rfl rfl rfl (by kernel_rfl) Try.func3 (by kernel_rfl)
    (of_decide_eq_true (by kernel_rfl)) (by unfold Func.isWrapper; first | (rw [if_pos (by decide +kernel)]; kernel_rfl) | (rw [if_neg (by decide +kernel)]; exact ⟨rfl, rfl⟩))
    (fun os started H enc _ => lifted3 os started H enc)
end
end Go.Proofs.Ytohecfbnmmgimaa
