/- That FlatTables returns true for all tables and angles. Conditions: none. -/
import Derived.Test.YtohecfbnmmgimaaHH
import Derived.Test.YtohecfbnmmgimaaTH
import Derived.Test.YtohecfbnmmgimaaVmZ
import Derived.Test.YtohecfbnmmgimaaRows
import Derived.HandedShaped
namespace Go.Proofs.Ytohecfbnmmgimaa
open Go.Vm Go.ChangeShapes Go.WideShapes Go.ChangeAt Go.RowKit Go.Joins
set_option linter.unusedVariables false
noncomputable section

theorem own : ownKnob Try.prog.godebug = none := by kernel_rfl
theorem laidOut : laidOutB Try.prog = true := by kernel_rfl
theorem inv_of {W : World} (h : W.ShapedOpen Try.prog) : inv0 W := Try.laysM144.s1_3 W h

theorem ent_all (ns : List Int) (h : ns.length = UU.size .ent) : ∃ z : UU.T .ent, EE.enc .ent z = ns.map (AVal.int .i64) := by
  match ns, h with
  | [a, b, c], _ => exact ⟨Ent.mk a b c, rfl⟩
theorem opens_ent {C : Cfg UU} (hP : C.P = Try.prog) (hE : C.E = EE) {H : Type} {enc : TypeId × Value → H} {W : World} : Opens C enc W 52 .ent := by
  obtain ⟨P, E, elt, sum, plain, plainOK, inv, invOK⟩ := C
  obtain rfl : P = Try.prog := hP
  obtain rfl : E = EE := hE
  exact opens_ints 5 (by kernel_rfl) (by kernel_rfl) (by kernel_rfl) (by kernel_rfl) ent_all

set_option maxRecDepth 100000 in
/-- A table that came in. -/
theorem open_table {H : Type} {enc : TypeId × Value → H} {W : World} {base : Nat} {v : Value} {x : DataW H} {ps : List MemPlace} (hok : Value.okWide Try.prog W .any base 41 v) (h : DataW.Trod enc Try.prog W 0 (fun _ => true) true 41 v x ps) :
    ∃ (m : ByteArray) (g d : Int) (es : List Ent), Rel EE W noOwn (Out' (fun _ => False) W) (AVal.agg [.str m, .int .i64 g, .int .i64 d, .sl .ent es] : AVal UU) v := by
  obtain ⟨zs, h1, h2, h3⟩ := open_agg (C := C_base) (d := 5) (t := 41) (fun u hu => by
    have hl : leafTys Try.prog 5 41 = [9, 3, 3, 39] := by kernel_rfl
    have hu' : u ∈ [9, 3, 3, 39] := hl ▸ hu
    simp only [List.mem_cons, List.not_mem_nil, or_false] at hu'
    rcases hu' with rfl | rfl | rfl | rfl
    · exact ⟨by kernel_rfl, fun e he => by rw [show C_base.P.underlying 9 = _ from Try.underlying9] at he; cases he⟩
    · exact ⟨by kernel_rfl, fun e he => by rw [show C_base.P.underlying 3 = _ from Try.underlying3] at he; cases he⟩
    · exact ⟨by kernel_rfl, fun e he => by rw [show C_base.P.underlying 3 = _ from Try.underlying3] at he; cases he⟩
    · refine ⟨by kernel_rfl, fun e he => ?_⟩
      rw [show C_base.P.underlying 39 = _ from Try.underlying39] at he
      cases he
      exact ⟨.ent, by kernel_rfl, opens_ent (by kernel_rfl) (by kernel_rfl)⟩) (by kernel_rfl) (by kernel_rfl) (by kernel_rfl) hok h
  have hl : leafTys C_base.P 5 41 = [9, 3, 3, 39] := by kernel_rfl
  simp only [hl] at h1 h2
  match zs, h1 with
  | [a0, a1, a2, a3], _ =>
    have f0 := h2 0 (by simp) (by simp)
    have f1 := h2 1 (by simp) (by simp)
    have f2 := h2 2 (by simp) (by simp)
    have f3 := h2 3 (by simp) (by simp)
    simp only [List.getElem_cons_zero, List.getElem_cons_succ, Fits] at f0 f1 f2 f3
    rw [show C_base.P.underlying 9 = _ from Try.underlying9] at f0
    rw [show C_base.P.underlying 3 = _ from Try.underlying3] at f1 f2
    rw [show C_base.P.underlying 39 = _ from Try.underlying39] at f3
    obtain ⟨m, rfl, _⟩ := f0
    obtain ⟨g, rfl, _⟩ := f1
    obtain ⟨d, rfl, _⟩ := f2
    obtain ⟨τ, es, hτ, rfl, _⟩ := f3
    have hτ' : C_base.elt 52 = some .ent := by kernel_rfl
    obtain rfl : Knd.ent = τ := Option.some.inj (hτ'.symm.trans hτ)
    exact ⟨m, g, d, es, h3⟩

set_option maxRecDepth 100000 in
theorem walk4 {v : Value} {m : ByteArray} {g d : Int} {es : List Ent} {a : Int} (W : World) (hi : inv0 W) (hr : Rel EE W noOwn (Out' (fun _ => False) W) (AVal.agg [.str m, .int .i64 g, .int .i64 d, .sl .ent es] : AVal UU) v) :
    Calls Try.prog 4 #[v, .int .i64 a] W fun e W' => e = .returned (.bool true) ∧ Below W.heap.size W W' := by
  refine law_callsM (C := C_law03_known) (c := bo Try.f4) (M := M_law03_FlatTables) (fuel := 0) s_law03_known mixed Try.func4 (by kernel_rfl) (xs := [.agg [.str m, .int .i64 g, .int .i64 d, .sl .ent es], .int .i64 a]) hi ⟨rfl, fun k hk => ?_⟩ (by kernel_rfl) ⟨?_⟩
  · match k, hk with
    | 0, _ => exact hr
    | 1, _ => exact .int _ _
  · rw [exec_law03_FlatTables]
    refine cast ?_ (law_tables m g d es a)
    congr 1
    funext r
    simp
set_option maxRecDepth 100000 in
theorem lifted4 (os : Os) (started : os.Started) (H : Type) (enc : TypeId × Value → H) :
    ReturnsInHanded {} Try.checked os 4 .any (Rows.flatTablesSpec.pre6 enc Try.prog Try.f4 Rows.flatTablesRow.domain false) (Rows.flatTablesSpec.post enc Try.prog Try.f4 false true false false) := by
  refine returnsInHanded_of_change_shaped (C := Try.checked) own started (by kernel_rfl) Try.func4
    (ChangeSpec.witness6 (enc := enc) (C := Try.checked) false ⟨#[], #[.agg #[.string ⟨#[]⟩, .int .i64 0, .int .i64 0, .slice none 0 0], .int .i64 0], []⟩ 8 (by kernel_rfl) (by kernel_rfl) (by kernel_rfl) (by kernel_rfl)) ?_
  intro W base args ds gs before hval0 hW _ _ hsh _
  have hval : ∀ (j : Nat) t v, Try.f4.params[j]? = some t → args[j]? = some v → Value.okWide Try.prog W .any base t v := hval0
  have hsh' : W.ShapedOpen Try.prog := hsh
  have hW' := hW
  obtain ⟨p, q, hA0, hV, rfl, _, _⟩ := hW
  have hA : DataW.TrodAll enc Try.prog W 0 (fun _ => true) true Try.f4.params.toList args.toList ds p := hA0
  rw [Try.params4] at hA hval
  obtain ⟨v0, vs0, d0, ds0, p0, q0, hargs, rfl, rfl, h0, r0⟩ := trodAll_cons hA
  obtain ⟨v1, vs1, d1, ds1, p1, q1, rfl, rfl, rfl, h1, r1⟩ := trodAll_cons r0
  obtain ⟨rfl, rfl, rfl⟩ := trodAll_nil r1
  obtain rfl : args = #[v0, v1] := by cases args; simp_all
  obtain ⟨m, g, d, es, hr⟩ := open_table (hval 0 41 v0 rfl rfl) h0
  obtain ⟨n, rfl, _⟩ := open_int Try.underlying3 (hval 1 3 v1 rfl rfl) h1
  refine (walk4 W (inv_of hsh') hr).mono fun e W' ⟨he, hb⟩ => ?_
  subst he
  exact ⟨_, rfl, law_post (tb := 4) laidOut (by kernel_rfl) rfl Try.underlying4 rfl rfl hW' hb⟩

theorem tables : Rows.FlatTablesSaid :=
  OpenClaim.holds_of_wide 4 Try.f4 rfl rfl rfl rfl rfl rfl rfl ⟨rfl, rfl, rfl, rfl, rfl⟩ rfl rfl rfl rfl rfl (by kernel_rfl) Try.func4 (by kernel_rfl)
    (of_decide_eq_true (by kernel_rfl)) (by unfold Func.isWrapper; first | (rw [if_pos (by decide +kernel)]; kernel_rfl) | (rw [if_neg (by decide +kernel)]; exact ⟨rfl, rfl⟩))
    (fun os started H enc _ => lifted4 os started H enc)
end
end Go.Proofs.Ytohecfbnmmgimaa
