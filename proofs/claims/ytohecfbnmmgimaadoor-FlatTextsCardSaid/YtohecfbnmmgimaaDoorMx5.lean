/- The tied card of FlatTexts. Conditions: none. -/
import Derived.Test.YtohecfbnmmgimaaDoorMx4
import Derived.Test.YtohecfbnmmgimaaDoorRows
import Derived.HandedShaped
import Derived.Handed
import Derived.LaidLaws
import Derived.Stop.LaidErr
import Derived.Lib.LaidTab
import Derived.Lay
import Derived.MakeChecks
import Derived.ChangeMaps5
import Derived.Test.YtohecfbnmmgimaaDoorCards
import Derived.Test.YtohecfbnmmgimaaDoorTie
import Derived.SevenTiedAt
namespace Go.Proofs.YtohecfbnmmgimaaDoor
open Go.Vm Go.RowKit
set_option linter.unusedVariables false
noncomputable section
/-! ### sheetmetal/sheetmetalref03.SameTable -/
def M_ref03_SameTable : Nat → Nat → Canon UU := fun b r => cond (Nat.beq b 0) ⟨[2, 3, 4, 5], [2, 3], [], [], []⟩ (⟨[], [], [], [], []⟩)
def st_ref03_SameTable_0 (t4 : Bool) (t5 : Int) (c2_0 : ByteArray) (c2_1 : Int) (c2_2 : Int) (c2_3 : List Ent) (c3_0 : ByteArray) (c3_1 : Int) (c3_2 : Int) (c3_3 : List Ent) : ASt UU := ⟨fun u => cond (Nat.beq u 2) (.ptr 2 0) (cond (Nat.beq u 3) (.ptr 3 0) (cond (Nat.beq u 4) (.bool t4) (cond (Nat.beq u 5) (.int .i64 t5) (.any)))), fun u => cond (Nat.beq u 2) (some (.cells [.str c2_0, .int .i64 c2_1, .int .i64 c2_2, .sl .ent c2_3])) (cond (Nat.beq u 3) (some (.cells [.str c3_0, .int .i64 c3_1, .int .i64 c3_2, .sl .ent c3_3])) (none))⟩
def g_ref03_SameTable_e (a0_Material : ByteArray) (a0_Gauge : Int) (a0_Die : Int) (a0_Entries : List Ent) (a1_Material : ByteArray) (a1_Gauge : Int) (a1_Die : Int) (a1_Entries : List Ent) (Q : Bool → Prop) (i0 : Bool → Int → ByteArray → Int → Int → List Ent → ByteArray → Int → Int → List Ent → Prop) : Prop := cond ((((a0_Material != a1_Material) || (a0_Gauge != a1_Gauge)) || (a0_Die != a1_Die)) || ((a0_Entries.length : Int) != (a1_Entries.length : Int))) (Q false) (i0 false 0 a0_Material a0_Gauge a0_Die a0_Entries a1_Material a1_Gauge a1_Die a1_Entries)
def g_ref03_SameTable_s0 (rec : Bool → Int → ByteArray → Int → Int → List Ent → ByteArray → Int → Int → List Ent → Prop) (x0 : Bool → Int → ByteArray → Int → Int → List Ent → ByteArray → Int → Int → List Ent → Prop) (x1 : Bool → Int → ByteArray → Int → Int → List Ent → ByteArray → Int → Int → List Ent → Prop) (t4 : Bool) (t5 : Int) (c2_0 : ByteArray) (c2_1 : Int) (c2_2 : Int) (c2_3 : List Ent) (c3_0 : ByteArray) (c3_1 : Int) (c3_2 : Int) (c3_3 : List Ent) : Prop := cond (decide (t5 < (c2_3.length : Int))) ((let e0 := (c2_3.getD t5.toNat default); ((0 ≤ t5 ∧ t5 < c2_3.length) ∧ (let e1 := (c3_3.getD t5.toNat default); ((0 ≤ t5 ∧ t5 < c3_3.length) ∧ cond (!((e0.Angle == e1.Angle) && ((e0.Num == e1.Num) && ((e0.Den == e1.Den) && true)))) (x0 false t5 c2_0 c2_1 c2_2 c2_3 c3_0 c3_1 c3_2 c3_3) (rec t4 (w64 (t5 + 1)) c2_0 c2_1 c2_2 c2_3 c3_0 c3_1 c3_2 c3_3)))))) (x1 t4 t5 c2_0 c2_1 c2_2 c2_3 c3_0 c3_1 c3_2 c3_3)
def g_ref03_SameTable_c0_0 (Q : Bool → Prop) (t4 : Bool) (t5 : Int) (c2_0 : ByteArray) (c2_1 : Int) (c2_2 : Int) (c2_3 : List Ent) (c3_0 : ByteArray) (c3_1 : Int) (c3_2 : Int) (c3_3 : List Ent) : Prop := Q t4
def g_ref03_SameTable_c0_1 (Q : Bool → Prop) (t4 : Bool) (t5 : Int) (c2_0 : ByteArray) (c2_1 : Int) (c2_2 : Int) (c2_3 : List Ent) (c3_0 : ByteArray) (c3_1 : Int) (c3_2 : Int) (c3_3 : List Ent) : Prop := Q true
def w_ref03_SameTable_0 (F : Nat) (x0 : Bool → Int → ByteArray → Int → Int → List Ent → ByteArray → Int → Int → List Ent → Prop) (x1 : Bool → Int → ByteArray → Int → Int → List Ent → ByteArray → Int → Int → List Ent → Prop) : Nat → Bool → Int → ByteArray → Int → Int → List Ent → ByteArray → Int → Int → List Ent → Prop
  | 0, _, _, _, _, _, _, _, _, _, _ => False
  | n + 1, t4, t5, c2_0, c2_1, c2_2, c2_3, c3_0, c3_1, c3_2, c3_3 => g_ref03_SameTable_s0 (w_ref03_SameTable_0 F x0 x1 n) x0 x1 t4 t5 c2_0 c2_1 c2_2 c2_3 c3_0 c3_1 c3_2 c3_3
def n_ref03_SameTable_0 (F : Nat) (Q : Bool → Prop) (t4 : Bool) (t5 : Int) (c2_0 : ByteArray) (c2_1 : Int) (c2_2 : Int) (c2_3 : List Ent) (c3_0 : ByteArray) (c3_1 : Int) (c3_2 : Int) (c3_3 : List Ent) : Prop := w_ref03_SameTable_0 F (fun t4 t5 c2_0 c2_1 c2_2 c2_3 c3_0 c3_1 c3_2 c3_3 => g_ref03_SameTable_c0_0 Q t4 t5 c2_0 c2_1 c2_2 c2_3 c3_0 c3_1 c3_2 c3_3) (fun t4 t5 c2_0 c2_1 c2_2 c2_3 c3_0 c3_1 c3_2 c3_3 => g_ref03_SameTable_c0_1 Q t4 t5 c2_0 c2_1 c2_2 c2_3 c3_0 c3_1 c3_2 c3_3) F t4 t5 c2_0 c2_1 c2_2 c2_3 c3_0 c3_1 c3_2 c3_3
def w_ref03_SameTable (F : Nat) (a0_Material : ByteArray) (a0_Gauge : Int) (a0_Die : Int) (a0_Entries : List Ent) (a1_Material : ByteArray) (a1_Gauge : Int) (a1_Die : Int) (a1_Entries : List Ent) (Q : Bool → Prop) : Prop := g_ref03_SameTable_e a0_Material a0_Gauge a0_Die a0_Entries a1_Material a1_Gauge a1_Die a1_Entries Q (n_ref03_SameTable_0 F Q)
end
end Go.Proofs.YtohecfbnmmgimaaDoor

namespace Go.Proofs.YtohecfbnmmgimaaDoor
open Go.Vm Go.RowKit
set_option linter.unusedVariables false
noncomputable section
def entEq (x y : Ent) : Bool := (x.Angle == y.Angle) && ((x.Num == y.Num) && ((x.Den == y.Den) && true))
def entsEq : List Ent → List Ent → Bool
  | [], [] => true
  | x :: l, y :: r => entEq x y && entsEq l r
  | _, _ => false
def pre_ref03_SameTable (m : ByteArray) (g d : Int) (es : List Ent) (m1 : ByteArray) (g1 d1 : Int) (es1 : List Ent) : Prop := es.length ≤ 9000
def sp_ref03_SameTable (m : ByteArray) (g d : Int) (es : List Ent) (m1 : ByteArray) (g1 d1 : Int) (es1 : List Ent) : Bool :=
  cond ((((m != m1) || (g != g1)) || (d != d1)) || ((es.length : Int) != (es1.length : Int))) false (entsEq es es1)
theorem lp_same (F : Nat) (Q : Bool → Prop) (m : ByteArray) (g d : Int) (es : List Ent) (m1 : ByteArray) (g1 d1 : Int) (es1 : List Ent) (hl : es.length ≤ 9000) (he : es.length = es1.length) : ∀ (n k : Nat), k ≤ es.length → es.length < k + n → Q (entsEq (es.drop k) (es1.drop k)) →
    w_ref03_SameTable_0 F (fun t4 t5 c2_0 c2_1 c2_2 c2_3 c3_0 c3_1 c3_2 c3_3 => g_ref03_SameTable_c0_0 Q t4 t5 c2_0 c2_1 c2_2 c2_3 c3_0 c3_1 c3_2 c3_3) (fun t4 t5 c2_0 c2_1 c2_2 c2_3 c3_0 c3_1 c3_2 c3_3 => g_ref03_SameTable_c0_1 Q t4 t5 c2_0 c2_1 c2_2 c2_3 c3_0 c3_1 c3_2 c3_3) n false k m g d es m1 g1 d1 es1 := by
  intro n
  induction n with
  | zero => intro k h1 h2; omega
  | succ n ih =>
    intro k h1 h2 hQ
    show g_ref03_SameTable_s0 (w_ref03_SameTable_0 F _ _ n) _ _ false k m g d es m1 g1 d1 es1
    unfold g_ref03_SameTable_s0
    by_cases h : k < es.length
    · rw [dec_t (by omega), cond_true, Int.toNat_natCast, w64_succ h (by omega)]
      rw [drop_getD es k h, drop_getD es1 k (by omega), entsEq] at hQ
      refine ⟨⟨by omega, by omega⟩, ⟨by omega, by omega⟩, ?_⟩
      unfold entEq at hQ
      dsimp only
      cases hc : ((es.getD k default).Angle == (es1.getD k default).Angle) && (((es.getD k default).Num == (es1.getD k default).Num) && (((es.getD k default).Den == (es1.getD k default).Den) && true))
      · rw [hc] at hQ
        exact hQ
      · rw [hc] at hQ
        exact ih (k + 1) (by omega) (by omega) hQ
    · rw [dec_f (by omega), cond_false]
      rw [List.drop_of_length_le (by omega), List.drop_of_length_le (by omega)] at hQ
      exact hQ
theorem ok_ref03_SameTable (a0_Material : ByteArray) (a0_Gauge : Int) (a0_Die : Int) (a0_Entries : List Ent) (a1_Material : ByteArray) (a1_Gauge : Int) (a1_Die : Int) (a1_Entries : List Ent) (h : pre_ref03_SameTable a0_Material a0_Gauge a0_Die a0_Entries a1_Material a1_Gauge a1_Die a1_Entries) : ∃ F, ∀ Q : Bool → Prop, Q (sp_ref03_SameTable a0_Material a0_Gauge a0_Die a0_Entries a1_Material a1_Gauge a1_Die a1_Entries) → w_ref03_SameTable F a0_Material a0_Gauge a0_Die a0_Entries a1_Material a1_Gauge a1_Die a1_Entries Q := by
  refine ⟨9001, fun Q hQ => ?_⟩
  have h : a0_Entries.length ≤ 9000 := h
  unfold w_ref03_SameTable g_ref03_SameTable_e n_ref03_SameTable_0
  unfold sp_ref03_SameTable at hQ
  cases hc : ((((a0_Material != a1_Material) || (a0_Gauge != a1_Gauge)) || (a0_Die != a1_Die)) || ((a0_Entries.length : Int) != (a1_Entries.length : Int)))
  · rw [hc] at hQ
    have he : a0_Entries.length = a1_Entries.length := by
      rw [Bool.or_eq_false_iff] at hc
      have := bne_eq_false_iff_eq.1 hc.2
      omega
    exact lp_same 9001 Q a0_Material a0_Gauge a0_Die a0_Entries a1_Material a1_Gauge a1_Die a1_Entries h he 9001 0 (by omega) (by omega) hQ
  · rw [hc] at hQ
    exact hQ
theorem ba_beq (a b : ByteArray) : (a == b) = decide (a = b) := by
  obtain ⟨x⟩ := a
  obtain ⟨y⟩ := b
  show (x == y) = _
  by_cases h : x = y
  · subst h; simp
  · have : ¬ (ByteArray.mk x = ByteArray.mk y) := fun e => h (by cases e; rfl)
    simp [h]
theorem ba_ne (a b : ByteArray) : (a != b) = !decide (a = b) := by
  show (!(a == b)) = _
  rw [ba_beq]
theorem entsEq_self : ∀ es : List Ent, entsEq es es = true
  | [] => rfl
  | x :: l => by
    rw [entsEq, entsEq_self l]
    unfold entEq
    simp
theorem same_self (m : ByteArray) (g d : Int) (es : List Ent) : sp_ref03_SameTable m g d es m g d es = true := by
  unfold sp_ref03_SameTable
  rw [entsEq_self, ba_ne]
  simp
end
end Go.Proofs.YtohecfbnmmgimaaDoor

namespace Go.Proofs.YtohecfbnmmgimaaDoor
open Go.Vm Go.RowKit
set_option linter.unusedVariables false
noncomputable section

theorem vn_spec {m : ByteArray} (h : vn m = true) : m.size ≤ 8 ∧ ∀ b ∈ m.data.toList, 48 ≤ b.toNat := by
  unfold vn at h
  simp only [Bool.not_eq_true', Bool.or_eq_false_iff, Bool.not_eq_false'] at h
  obtain ⟨⟨⟨⟨⟨_, h1⟩, _⟩, _⟩, h2⟩, _⟩ := h
  refine ⟨by have := of_decide_eq_false h1; omega, fun b hb => ?_⟩
  unfold okFrom at h2
  rw [List.drop_zero] at h2
  have := List.all_eq_true.1 h2 b hb
  unfold okc at this
  simp only [Bool.not_eq_true', Bool.and_eq_false_iff, Bool.or_eq_false_iff, decide_eq_false_iff_not] at this
  omega
abbrev mkB (l : List UInt8) : ByteArray := ⟨l.toArray⟩
theorem mkB_data (l : List UInt8) : (mkB l).data.toList = l := by simp
theorem mkB_of (b : ByteArray) : mkB b.data.toList = b := by simp
def wT : List UInt8 := [116, 97, 98, 108, 101]
def wA : List UInt8 := [97, 110, 103, 108, 101]
def headL (m : List UInt8) (g d : Int) : List UInt8 := wT ++ 32 :: (m ++ 32 :: (numeral g ++ 32 :: numeral d))
def fracL (e : Ent) : List UInt8 := numeral e.Num ++ 47 :: numeral e.Den
def lineL (e : Ent) : List UInt8 := wA ++ 32 :: (numeral e.Angle ++ 32 :: fracL e)
def restL : List Ent → List UInt8
  | [] => []
  | e :: l => lineL e ++ 10 :: restL l
theorem headT_data {m : ByteArray} {g d : Int} (hg : 0 ≤ g) (hd : 0 ≤ d) : (headT m g d).data.toList = headL m.data.toList g d ++ [10] := by
  unfold headT bTable bSp bNl headL wT
  rw [itoaB_num hg, itoaB_num hd]
  simp [ByteArray.data_append]
theorem lineE_data {e : Ent} (h : smallE e) : (lineE e).data.toList = lineL e ++ [10] := by
  obtain ⟨a, b, c⟩ := h
  unfold lineE bAngle bSp bNl bSl lineL fracL wA
  rw [itoaB_num a.1, itoaB_num b.1, itoaB_num c.1]
  simp [ByteArray.data_append]
theorem rows_data : ∀ (es : List Ent) (o : ByteArray), (∀ e ∈ es, smallE e) → (es.foldl (fun o e => o ++ lineE e) o).data.toList = o.data.toList ++ restL es
  | [], o, _ => by simp [restL]
  | e :: l, o, h => by
    rw [List.foldl_cons, rows_data l _ (fun x hx => h x (List.mem_cons_of_mem _ hx)), ByteArray.data_append, Array.toList_append, lineE_data (h e (List.mem_cons_self ..)), restL]
    simp
theorem fmt_data {m : ByteArray} {g d : Int} {es : List Ent} (hg : 0 ≤ g) (hd : 0 ≤ d) (hs : ∀ e ∈ es, smallE e) : (fmtT m g d es).data.toList = headL m.data.toList g d ++ 10 :: restL es := by
  unfold fmtT
  rw [rows_data es _ hs, ByteArray.empty_append, headT_data hg hd]
  simp
theorem not_app {c : UInt8} {a b : List UInt8} (ha : c ∉ a) (hb : c ∉ b) : c ∉ a ++ b := fun h => by
  rcases List.mem_append.1 h with h | h
  · exact ha h
  · exact hb h
theorem not_cons {c x : UInt8} {b : List UInt8} (ha : c ≠ x) (hb : c ∉ b) : c ∉ x :: b := fun h => by
  rcases List.mem_cons.1 h with h | h
  · exact ha h
  · exact hb h
theorem nl_head {m : List UInt8} (hm : (10 : UInt8) ∉ m) (g d : Int) : (10 : UInt8) ∉ headL m g d :=
  not_app (by decide) (not_cons (by decide) (not_app hm (not_cons (by decide) (not_app (num_not (by decide)) (not_cons (by decide) (num_not (by decide)))))))
theorem nl_line (e : Ent) : (10 : UInt8) ∉ lineL e :=
  not_app (by decide) (not_cons (by decide) (not_app (num_not (by decide)) (not_cons (by decide) (not_app (num_not (by decide)) (not_cons (by decide) (num_not (by decide)))))))
theorem pcs_rest : ∀ es : List Ent, pcs 10 (restL es) = es.map lineL ++ [[]]
  | [] => rfl
  | e :: l => by rw [restL, pcs_app (nl_line e), pcs_rest l]; rfl
theorem lines_fmt {m : ByteArray} {g d : Int} {es : List Ent} (hm : (10 : UInt8) ∉ m.data.toList) (hg : 0 ≤ g) (hd : 0 ≤ d) (hs : ∀ e ∈ es, smallE e) : splitP 10 (fmtT m g d es) = mkB (headL m.data.toList g d) :: ((es.map fun e => mkB (lineL e)) ++ [mkB []]) := by
  unfold splitP
  rw [fmt_data hg hd hs, pcs_app (nl_head hm g d), pcs_rest]
  simp
theorem words_head {m : ByteArray} (hm : (32 : UInt8) ∉ m.data.toList) (g d : Int) : splitP 32 (mkB (headL m.data.toList g d)) = [mkB wT, m, mkB (numeral g), mkB (numeral d)] := by
  unfold splitP headL
  rw [mkB_data, pcs_app (by decide), pcs_app hm, pcs_app (num_not (by decide)), pcs_no (num_not (by decide))]
  show [mkB wT, mkB m.data.toList, mkB (numeral g), mkB (numeral d)] = _
  rw [mkB_of]
theorem words_line (e : Ent) : splitP 32 (mkB (lineL e)) = [mkB wA, mkB (numeral e.Angle), mkB (fracL e)] := by
  unfold splitP lineL
  rw [mkB_data, pcs_app (by decide), pcs_app (num_not (by decide)), pcs_no (l := fracL e) (not_app (num_not (by decide)) (not_cons (by decide) (num_not (by decide))))]
  rfl
theorem words_frac (e : Ent) : splitP 47 (mkB (fracL e)) = [mkB (numeral e.Num), mkB (numeral e.Den)] := by
  unfold splitP fracL
  rw [mkB_data, pcs_app (num_not (by decide)), pcs_no (num_not (by decide))]
  rfl

/-! ### flat's parser -/
theorem stepP_head {m : ByteArray} {g d : Int} (hm : (32 : UInt8) ∉ m.data.toList) (hg : 0 ≤ g ∧ g ≤ 1000) (hd : 0 ≤ d ∧ d ≤ 1000) : stepP 0 (mkB (headL m.data.toList g d)) st0 = ⟨m, g, d, true, []⟩ := by
  unfold stepP sp_flat_ParseTable_1
  rw [splitL_one, words_head hm]
  show (PSt.mk m (atoiB (mkB (numeral g))).1 (atoiB (mkB (numeral d))).1 ((true && (atoiB (mkB (numeral g))).2) && (atoiB (mkB (numeral d))).2) []) = _
  rw [atoiB_num hg.1 hg.2, atoiB_num hd.1 hd.2]
  rfl
theorem stepP_line {e : Ent} (he : smallE e) (i : Nat) (hi : 1 ≤ i) (s : PSt) : stepP (i : Int) (mkB (lineL e)) s = ⟨s.m, s.g, s.d, s.ok, s.es ++ [e]⟩ := by
  obtain ⟨a, b, c⟩ := he
  unfold stepP sp_flat_ParseTable_1
  rw [splitL_one, words_line]
  have e1 : (((i : Int) == 0) && ((([mkB wA, mkB (numeral e.Angle), mkB (fracL e)] : List ByteArray).length : Int) == 4)) = false := by
    rw [beq_eq_false_iff_ne.2 (show (i : Int) ≠ 0 by omega), Bool.false_and]
  have e2 : (decide (0 < (i : Int)) && ((([mkB wA, mkB (numeral e.Angle), mkB (fracL e)] : List ByteArray).length : Int) == 3)) = true := by
    rw [dec_t (show (0 : Int) < i by omega)]
    rfl
  rw [e1, e2, cond_false, cond_true]
  have e3 : cutB (mkB (fracL e)) (ByteArray.mk #[47]) = (mkB (numeral e.Num), mkB (numeral e.Den), true) := cutB_at (num_not (by decide))
  have e4 : ([mkB wA, mkB (numeral e.Angle), mkB (fracL e)] : List ByteArray).getD 2 default = mkB (fracL e) := rfl
  have e5 : ([mkB wA, mkB (numeral e.Angle), mkB (fracL e)] : List ByteArray).getD 1 default = mkB (numeral e.Angle) := rfl
  rw [e4, e5, e3]
  show (PSt.mk s.m s.g s.d (((s.ok && (atoiB (mkB (numeral e.Angle))).2) && (atoiB (mkB (numeral e.Num))).2) && (atoiB (mkB (numeral e.Den))).2) (s.es ++ [Ent.mk (atoiB (mkB (numeral e.Angle))).1 (atoiB (mkB (numeral e.Num))).1 (atoiB (mkB (numeral e.Den))).1])) = _
  rw [atoiB_num a.1 a.2, atoiB_num b.1 b.2, atoiB_num c.1 c.2]
  simp
theorem stepP_end (i : Int) (s : PSt) : stepP i (mkB []) s = s := by
  unfold stepP
  rw [splitL_one, show splitP 32 (mkB []) = [mkB []] from rfl]
  have e1 : ((([mkB []] : List ByteArray).length : Int) == 4) = false := rfl
  have e2 : ((([mkB []] : List ByteArray).length : Int) == 3) = false := rfl
  rw [e1, e2, Bool.and_false, Bool.and_false]
  rfl
theorem goP_lines : ∀ (es : List Ent) (i : Nat) (s : PSt), 1 ≤ i → (∀ e ∈ es, smallE e) → goP ((es.map fun e => mkB (lineL e)) ++ [mkB []]) i s = ⟨s.m, s.g, s.d, s.ok, s.es ++ es⟩
  | [], i, s, hi, _ => by
    show stepP (i : Int) (mkB []) s = _
    rw [stepP_end, List.append_nil]
  | e :: l, i, s, hi, h => by
    show goP ((l.map fun e => mkB (lineL e)) ++ [mkB []]) (i + 1) (stepP (i : Int) (mkB (lineL e)) s) = _
    rw [stepP_line (h e (List.mem_cons_self ..)) i hi, goP_lines l _ _ (by omega) (fun x hx => h x (List.mem_cons_of_mem _ hx))]
    simp

/-! ### the reference's -/
theorem word_sp (s : ByteArray) : sp_ref02_Words s 32 = splitP 32 s := rfl
theorem word_nl (s : ByteArray) : sp_ref02_Words s 10 = splitP 10 s := rfl
theorem word_sl (s : ByteArray) : sp_ref02_Words s 47 = splitP 47 s := rfl
theorem stepR_head {m : ByteArray} {g d : Int} (hm : (32 : UInt8) ∉ m.data.toList) (hg : 0 ≤ g ∧ g ≤ 1000) (hd : 0 ≤ d ∧ d ≤ 1000) (s : PSt) : stepR s (mkB (headL m.data.toList g d)) = ⟨m, g, d, s.ok, s.es⟩ := by
  unfold stepR
  rw [word_sp, words_head hm]
  have e1 : headR [mkB wT, m, mkB (numeral g), mkB (numeral d)] s = ⟨m, sp_ref02_Number (mkB (numeral g)), sp_ref02_Number (mkB (numeral d)), s.ok, s.es⟩ := rfl
  rw [e1, num_of hg.1 hg.2, num_of hd.1 hd.2]
  rfl
theorem stepR_line {e : Ent} (he : smallE e) (s : PSt) : stepR s (mkB (lineL e)) = ⟨s.m, s.g, s.d, s.ok, s.es ++ [e]⟩ := by
  obtain ⟨a, b, c⟩ := he
  unfold stepR
  rw [word_sp, words_line]
  have e1 : headR [mkB wA, mkB (numeral e.Angle), mkB (fracL e)] s = s := rfl
  rw [e1]
  unfold addR
  have e4 : ([mkB wA, mkB (numeral e.Angle), mkB (fracL e)] : List ByteArray).getD 2 default = mkB (fracL e) := rfl
  have e5 : ([mkB wA, mkB (numeral e.Angle), mkB (fracL e)] : List ByteArray).getD 1 default = mkB (numeral e.Angle) := rfl
  rw [e4, e5, word_sl, words_frac]
  show (PSt.mk s.m s.g s.d s.ok (s.es ++ [Ent.mk (sp_ref02_Number (mkB (numeral e.Angle))) (sp_ref02_Number (mkB (numeral e.Num))) (sp_ref02_Number (mkB (numeral e.Den)))])) = _
  rw [num_of a.1 a.2, num_of b.1 b.2, num_of c.1 c.2]
theorem stepR_end (s : PSt) : stepR s (mkB []) = s := rfl
theorem goR_lines : ∀ (es : List Ent) (s : PSt), (∀ e ∈ es, smallE e) → ((es.map fun e => mkB (lineL e)) ++ [mkB []]).foldl stepR s = ⟨s.m, s.g, s.d, s.ok, s.es ++ es⟩
  | [], s, _ => by
    show stepR s (mkB []) = _
    rw [stepR_end, List.append_nil]
  | e :: l, s, h => by
    show ((l.map fun e => mkB (lineL e)) ++ [mkB []]).foldl stepR (stepR s (mkB (lineL e))) = _
    rw [stepR_line (h e (List.mem_cons_self ..)), goR_lines l _ (fun x hx => h x (List.mem_cons_of_mem _ hx))]
    simp

/-! ### what both return -/
theorem parse_fmt {m : ByteArray} {g d : Int} {es : List Ent} (h : tabOK m g d es = true) : parseP (fmtT m g d es) = ⟨m, g, d, true, es⟩ ∧ parseR (fmtT m g d es) = ⟨m, g, d, true, es⟩ := by
  obtain ⟨hv, hg, hd, hl, hs⟩ := tab_small h
  have hb := (vn_spec hv).2
  have h10 : (10 : UInt8) ∉ m.data.toList := fun hm => absurd (hb _ hm) (by decide)
  have h32 : (32 : UInt8) ∉ m.data.toList := fun hm => absurd (hb _ hm) (by decide)
  have hlines := lines_fmt h10 (show 0 ≤ g by omega) (show 0 ≤ d by omega) hs
  constructor
  · unfold parseP
    rw [splitL_one, hlines]
    show goP _ 1 (stepP ((0 : Nat) : Int) (mkB (headL m.data.toList g d)) st0) = _
    have e := stepP_head (m := m) (g := g) (d := d) h32 (by omega) (by omega)
    have e' : stepP ((0 : Nat) : Int) (mkB (headL m.data.toList g d)) st0 = ⟨m, g, d, true, []⟩ := e
    rw [e', goP_lines es 1 _ (by omega) hs]
    rfl
  · unfold parseR
    rw [word_nl, hlines, List.take_of_length_le (by simp; omega)]
    show List.foldl stepR (stepR st0 (mkB (headL m.data.toList g d))) _ = _
    rw [stepR_head h32 (by omega) (by omega), goR_lines es _ hs]
    rfl
theorem rows_size : ∀ (es : List Ent) (o : ByteArray), (∀ e ∈ es, smallE e) → (es.foldl (fun o e => o ++ lineE e) o).size ≤ o.size + 30 * es.length
  | [], o, _ => Nat.le_refl _
  | e :: l, o, h => by
    rw [List.foldl_cons]
    have ih := rows_size l (o ++ lineE e) (fun x hx => h x (List.mem_cons_of_mem _ hx))
    obtain ⟨a, b, c⟩ := h e (List.mem_cons_self ..)
    have s1 := itoa_size a.1 a.2
    have s2 := itoa_size b.1 b.2
    have s3 := itoa_size c.1 c.2
    have hsz : (lineE e).size ≤ 30 := by
      unfold lineE bAngle bSp bSl bNl
      simp only [ByteArray.size_append]
      simp only [show (ByteArray.mk #[97, 110, 103, 108, 101, 32]).size = 6 from rfl, show (ByteArray.mk #[32]).size = 1 from rfl, show (ByteArray.mk #[47]).size = 1 from rfl, show (ByteArray.mk #[10]).size = 1 from rfl]
      omega
    rw [ByteArray.size_append] at ih
    simp only [List.length_cons]
    omega
theorem fmt_size {m : ByteArray} {g d : Int} {es : List Ent} (h : tabOK m g d es = true) : (fmtT m g d es).size ≤ 8000 := by
  obtain ⟨hv, hg, hd, hl, hs⟩ := tab_small h
  have hb := (vn_spec hv).1
  have s1 := itoa_size (n := g) (by omega) (by omega)
  have s2 := itoa_size (n := d) (by omega) (by omega)
  have hsz : (headT m g d).size ≤ 100 := by
    unfold headT bTable bSp bNl
    simp only [ByteArray.size_append]
    simp only [show (ByteArray.mk #[116, 97, 98, 108, 101, 32]).size = 6 from rfl, show (ByteArray.mk #[32]).size = 1 from rfl, show (ByteArray.mk #[10]).size = 1 from rfl]
    omega
  have h2 := rows_size es (ByteArray.empty ++ headT m g d) hs
  rw [ByteArray.empty_append] at h2
  unfold fmtT
  rw [ByteArray.empty_append]
  omega
/-- The text is a table's. -/
def isFmt (t : ByteArray) : Prop := ∃ m g d es, tabOK m g d es = true ∧ t = fmtT m g d es
theorem format_ok {m : ByteArray} {g d : Int} {es : List Ent} (h : tabOK m g d es = true) : sp_flat_FormatTable m g d es = (fmtT m g d es, 0) := by
  unfold sp_flat_FormatTable
  rw [h]
  rfl
theorem taken {m : ByteArray} {g d : Int} {es : List Ent} {t : ByteArray} (h : (((sp_flat_FormatTable m g d es).2 != 0) || ((sp_flat_FormatTable m g d es).1 != t)) = false) : isFmt t := by
  rw [Bool.or_eq_false_iff, ba_ne] at h
  obtain ⟨h1, h2⟩ := h
  unfold sp_flat_FormatTable at h1 h2
  cases ht : tabOK m g d es
  · rw [ht] at h1
    cases h1
  · rw [ht] at h2
    simp only [cond_true, Bool.not_eq_false', decide_eq_true_eq] at h2
    exact ⟨m, g, d, es, ht, h2.symm⟩
theorem flat_fmt {m : ByteArray} {g d : Int} {es : List Ent} (h : tabOK m g d es = true) : sp_flat_ParseTable (fmtT m g d es) = (m, g, d, es, 0) := by
  have hs := fmt_size h
  unfold sp_flat_ParseTable
  rw [(parse_fmt h).1, dec_f (by omega), cond_false]
  dsimp only
  rw [format_ok h, ba_ne]
  simp
theorem ref_fmt {m : ByteArray} {g d : Int} {es : List Ent} (h : tabOK m g d es = true) : sp_ref03_ParseTable (fmtT m g d es) = (m, g, d, es, 0) := by
  have hs := fmt_size h
  unfold sp_ref03_ParseTable
  rw [(parse_fmt h).2, dec_f (by omega), cond_false]
  dsimp only
  rw [format_ok h, ba_ne]
  simp
theorem parse_eq (t : ByteArray) : sp_ref03_ParseTable t = sp_flat_ParseTable t := by
  by_cases h : isFmt t
  · obtain ⟨m, g, d, es, ht, rfl⟩ := h
    rw [flat_fmt ht, ref_fmt ht]
  · unfold sp_ref03_ParseTable sp_flat_ParseTable
    cases decide (8000 < (t.size : Int))
    · have e1 : (((sp_flat_FormatTable (parseR t).m (parseR t).g (parseR t).d (parseR t).es).2 != 0) || ((sp_flat_FormatTable (parseR t).m (parseR t).g (parseR t).d (parseR t).es).1 != t)) = true := by
        rw [← Bool.not_eq_false]
        exact fun e => h (taken e)
      have e2 : (((!(parseP t).ok) || ((sp_flat_FormatTable (parseP t).m (parseP t).g (parseP t).d (parseP t).es).2 != 0)) || ((sp_flat_FormatTable (parseP t).m (parseP t).g (parseP t).d (parseP t).es).1 != t)) = true := by
        rw [← Bool.not_eq_false, Bool.or_assoc, Bool.or_eq_false_iff]
        exact fun e => h (taken e.2)
      rw [e1, e2]
      rfl
    · rfl
end
end Go.Proofs.YtohecfbnmmgimaaDoor

namespace Go.Proofs.YtohecfbnmmgimaaDoor
open Go.Vm Go.RowKit
set_option linter.unusedVariables false
noncomputable section
/-! ### sheetmetal/sheetmetallaw03.FlatTexts -/
def M_law03_FlatTexts : Nat → Nat → Canon UU := fun b r => ⟨[], [], [], [], []⟩
def g_law03_FlatTexts_e (a0_Material : ByteArray) (a0_Gauge : Int) (a0_Die : Int) (a0_Entries : List Ent) (a1 : ByteArray) (Q : Bool → Prop) : Prop := (let r0 := (sp_law03_Wide a0_Material a0_Gauge a0_Die a0_Entries); cond (r0 || (decide (9000 < (a1.size : Int)))) (((pre_law03_known ) ∧ Q sp_law03_known)) ((let r1 := (sp_flat_FormatTable a0_Material a0_Gauge a0_Die a0_Entries); ((pre_flat_FormatTable a0_Material a0_Gauge a0_Die a0_Entries) ∧ (let r2 := (sp_ref03_FormatTable a0_Material a0_Gauge a0_Die a0_Entries); ((pre_ref03_FormatTable a0_Material a0_Gauge a0_Die a0_Entries) ∧ (let r3 := (sp_flat_ParseTable a1); ((pre_flat_ParseTable a1) ∧ (let r4 := (sp_ref03_ParseTable a1); ((pre_ref03_ParseTable a1) ∧ (let r5 := (sp_ref03_SameTable r3.1 r3.2.1 r3.2.2.1 r3.2.2.2.1 r4.1 r4.2.1 r4.2.2.1 r4.2.2.2.1); (((((r1.1 != r2.1) || (r1.2 != r2.2)) || (r3.2.2.2.2 != r4.2.2.2.2)) = false → pre_ref03_SameTable r3.1 r3.2.1 r3.2.2.1 r3.2.2.2.1 r4.1 r4.2.1 r4.2.2.1 r4.2.2.2.1) ∧ cond ((((r1.1 != r2.1) || (r1.2 != r2.2)) || (r3.2.2.2.2 != r4.2.2.2.2)) || (!r5)) (Q false) (cond (r1.2 != 0) (((pre_law03_known ) ∧ Q sp_law03_known)) ((let r6 := (sp_flat_ParseTable r1.1); ((pre_flat_ParseTable r1.1) ∧ (let r7 := (sp_ref03_SameTable r6.1 r6.2.1 r6.2.2.1 r6.2.2.2.1 a0_Material a0_Gauge a0_Die a0_Entries); ((((r6.2.2.2.2 == 0) = true → pre_ref03_SameTable r6.1 r6.2.1 r6.2.2.1 r6.2.2.2.1 a0_Material a0_Gauge a0_Die a0_Entries) ∧ (((r6.2.2.2.2 == 0) && r7) = true → pre_law03_known )) ∧ Q (((r6.2.2.2.2 == 0) && r7) && sp_law03_known)))))))))))))))))))
def w_law03_FlatTexts (F : Nat) (a0_Material : ByteArray) (a0_Gauge : Int) (a0_Die : Int) (a0_Entries : List Ent) (a1 : ByteArray) (Q : Bool → Prop) : Prop := g_law03_FlatTexts_e a0_Material a0_Gauge a0_Die a0_Entries a1 Q
end
end Go.Proofs.YtohecfbnmmgimaaDoor

namespace Go.Proofs.YtohecfbnmmgimaaDoor
open Go.Vm Go.RowKit
set_option linter.unusedVariables false
noncomputable section
theorem valid_iffQ {n d : Int} : sp_flat_valid n d = true ↔ (1 ≤ d ∧ d ≤ 4096 ∧ -16777216 ≤ n ∧ n ≤ 16777216) := by
  simp [sp_flat_valid, and_assoc]
theorem valid_bigQ {n d : Int} (h : sp_flat_valid n d = true) : bigOK n d := by
  obtain ⟨h1, h2, h3, h4⟩ := valid_iffQ.1 h
  exact ⟨by omega, by omega, by omega, by omega⟩
theorem pre_ReduceQ (n d : Int) : pre_flat_Reduce n d := by
  unfold pre_flat_Reduce
  cases h : sp_flat_valid n d
  · trivial
  · exact valid_bigQ h
theorem times720Q {n d : Int} (h : sp_flat_valid n d = true) : w64 (n * 720) = n * 720 ∧ w64 (d * 1) = d ∧ bigOK (n * 720) d := by
  obtain ⟨h1, h2, h3, h4⟩ := valid_iffQ.1 h
  exact ⟨w64_of (by omega) (by omega), by rw [w64_of (by omega) (by omega)]; omega, by omega, by omega, by omega, by omega⟩
theorem pre_TicksQ (n d : Int) : pre_flat_Ticks n d := by
  unfold pre_flat_Ticks
  cases h : sp_flat_valid n d
  · trivial
  · obtain ⟨e1, e2, e3⟩ := times720Q h
    show bigOK (w64 (n * 720)) (w64 (d * 1))
    rw [e1, e2]
    exact e3
theorem known_pre' : pre_law03_known := ⟨pre_ReduceQ _ _, pre_TicksQ _ _⟩
theorem known_true' : sp_law03_known = true := by decide +kernel


theorem parsed_small (t : ByteArray) : (sp_flat_ParseTable t).2.2.2.1.length ≤ 9000 := by
  by_cases h : isFmt t
  · obtain ⟨m, g, d, es, ht, rfl⟩ := h
    rw [flat_fmt ht]
    have := (tab_small ht).2.2.2.1
    show es.length ≤ 9000
    omega
  · unfold sp_flat_ParseTable
    cases decide (8000 < (t.size : Int))
    · have e2 : (((!(parseP t).ok) || ((sp_flat_FormatTable (parseP t).m (parseP t).g (parseP t).d (parseP t).es).2 != 0)) || ((sp_flat_FormatTable (parseP t).m (parseP t).g (parseP t).d (parseP t).es).1 != t)) = true := by
        rw [← Bool.not_eq_false, Bool.or_assoc, Bool.or_eq_false_iff]
        exact fun e => h (taken e.2)
      rw [e2]
      exact Nat.zero_le _
    · exact Nat.zero_le _
theorem law_texts (m : ByteArray) (g d : Int) (es : List Ent) (t : ByteArray) : w_law03_FlatTexts 1 m g d es t (fun r => r = true) := by
  unfold w_law03_FlatTexts g_law03_FlatTexts_e
  dsimp only
  cases hl : (sp_law03_Wide m g d es || decide (9000 < (t.size : Int)))
  · rw [cond_false]
    rw [Bool.or_eq_false_iff] at hl
    obtain ⟨h1, h2⟩ := hl
    have h2 := of_decide_eq_false h2
    unfold sp_law03_Wide at h1
    simp only [Bool.or_eq_false_iff, decide_eq_false_iff_not] at h1
    have hp : m.size ≤ 9000 ∧ es.length ≤ 9000 := ⟨by omega, by omega⟩
    have ht : t.size ≤ 100000 := by omega
    refine ⟨hp, hp, ht, ht, fun _ => parsed_small t, ?_⟩
    rw [parse_eq, same_self]
    have e : sp_ref03_FormatTable m g d es = sp_flat_FormatTable m g d es := rfl
    rw [e, ba_ne]
    simp only [decide_true, Bool.not_true, bne_self_eq_false, Bool.or_self, cond_false]
    cases hv : tabOK m g d es
    · have e2 : sp_flat_FormatTable m g d es = (ByteArray.empty, 9) := by
        unfold sp_flat_FormatTable
        rw [hv]
        rfl
      rw [e2]
      exact ⟨known_pre', known_true'⟩
    · rw [format_ok hv]
      refine ⟨Nat.le_trans (fmt_size hv) (by decide), ?_⟩
      rw [flat_fmt hv]
      dsimp only
      rw [same_self, known_true']
      exact ⟨⟨fun _ => hp.2, fun _ => known_pre'⟩, rfl⟩
  · rw [cond_true]
    exact ⟨known_pre', known_true'⟩
end
end Go.Proofs.YtohecfbnmmgimaaDoor

namespace Go.Proofs.YtohecfbnmmgimaaDoor
open Go.Vm Go.RowKit
set_option linter.unusedVariables false
noncomputable section
set_option maxRecDepth 100000 in
theorem entry_flat_rightAngle (F : Nat) (Post : AVal UU → Prop) (a0 : Int) : exec C_lib Tryd.f31.ntmps M_flat_rightAngle F 0 (bo Tryd.f31) (initSt [.int .i64 a0]) (AEnds C_lib false Tryd.f31 Post) = g_flat_rightAngle_e a0 (fun r0 => Post (.bool r0)) := by kernel_rfl
theorem exec_flat_rightAngle (F : Nat) (Post : AVal UU → Prop) (a0 : Int) : exec C_lib Tryd.f31.ntmps M_flat_rightAngle F 0 (bo Tryd.f31) (initSt [.int .i64 a0]) (AEnds C_lib false Tryd.f31 Post) = w_flat_rightAngle F a0 (fun r0 => Post (.bool r0)) := by
  rw [entry_flat_rightAngle]
  rfl
def m_flat_rightAngle : Model UU
  | [.int .i64 a0] => some ([], .bool (sp_flat_rightAngle a0))
  | _ => none
def C_flat_rightAngle : Cfg UU := C_lib.add 31 m_flat_rightAngle
theorem s_flat_rightAngle : SumOK C_flat_rightAngle := by
  refine s_lib.addD mixed (fn := Tryd.f31) (c := bo Tryd.f31) Tryd.func31 (by kernel_rfl) (by kernel_rfl) ?_
  intro xs cs r h hc
  unfold m_flat_rightAngle at h
  split at h
  · rename_i a0
    cases h
    obtain ⟨F, hF⟩ := ok_flat_rightAngle a0
    refine ⟨by kernel_rfl, M_flat_rightAngle, F, false, ⟨?_⟩⟩
    rw [exec_flat_rightAngle]
    refine hF _ ?_
    rfl
  · cases h
set_option maxRecDepth 100000 in
theorem entry_flat_rightDen (F : Nat) (Post : AVal UU → Prop) (a0 : Int) : exec C_flat_rightAngle Tryd.f32.ntmps M_flat_rightDen F 0 (bo Tryd.f32) (initSt [.int .i64 a0]) (AEnds C_flat_rightAngle false Tryd.f32 Post) = g_flat_rightDen_e a0 (fun r0 => Post (.bool r0)) := by kernel_rfl
theorem exec_flat_rightDen (F : Nat) (Post : AVal UU → Prop) (a0 : Int) : exec C_flat_rightAngle Tryd.f32.ntmps M_flat_rightDen F 0 (bo Tryd.f32) (initSt [.int .i64 a0]) (AEnds C_flat_rightAngle false Tryd.f32 Post) = w_flat_rightDen F a0 (fun r0 => Post (.bool r0)) := by
  rw [entry_flat_rightDen]
  rfl
def m_flat_rightDen : Model UU
  | [.int .i64 a0] => some ([], .bool (sp_flat_rightDen a0))
  | _ => none
def C_flat_rightDen : Cfg UU := C_flat_rightAngle.add 32 m_flat_rightDen
theorem s_flat_rightDen : SumOK C_flat_rightDen := by
  refine s_flat_rightAngle.addD mixed (fn := Tryd.f32) (c := bo Tryd.f32) Tryd.func32 (by kernel_rfl) (by kernel_rfl) ?_
  intro xs cs r h hc
  unfold m_flat_rightDen at h
  split at h
  · rename_i a0
    cases h
    obtain ⟨F, hF⟩ := ok_flat_rightDen a0
    refine ⟨by kernel_rfl, M_flat_rightDen, F, false, ⟨?_⟩⟩
    rw [exec_flat_rightDen]
    refine hF _ ?_
    rfl
  · cases h
set_option maxRecDepth 100000 in
theorem entry_ref03_within (F : Nat) (Post : AVal UU → Prop) (a0 : Int) (a1 : Int) (a2 : Int) : exec C_flat_rightDen Tryd.f36.ntmps M_ref03_within F 0 (bo Tryd.f36) (initSt [.int .i64 a0, .int .i64 a1, .int .i64 a2]) (AEnds C_flat_rightDen false Tryd.f36 Post) = g_ref03_within_e a0 a1 a2 (fun r0 => Post (.bool r0)) := by kernel_rfl
theorem exec_ref03_within (F : Nat) (Post : AVal UU → Prop) (a0 : Int) (a1 : Int) (a2 : Int) : exec C_flat_rightDen Tryd.f36.ntmps M_ref03_within F 0 (bo Tryd.f36) (initSt [.int .i64 a0, .int .i64 a1, .int .i64 a2]) (AEnds C_flat_rightDen false Tryd.f36 Post) = w_ref03_within F a0 a1 a2 (fun r0 => Post (.bool r0)) := by
  rw [entry_ref03_within]
  rfl
def m_ref03_within : Model UU
  | [.int .i64 a0, .int .i64 a1, .int .i64 a2] => some ([], .bool (sp_ref03_within a0 a1 a2))
  | _ => none
def C_ref03_within : Cfg UU := C_flat_rightDen.add 36 m_ref03_within
theorem s_ref03_within : SumOK C_ref03_within := by
  refine s_flat_rightDen.addD mixed (fn := Tryd.f36) (c := bo Tryd.f36) Tryd.func36 (by kernel_rfl) (by kernel_rfl) ?_
  intro xs cs r h hc
  unfold m_ref03_within at h
  split at h
  · rename_i a0 a1 a2
    cases h
    obtain ⟨F, hF⟩ := ok_ref03_within a0 a1 a2
    refine ⟨by kernel_rfl, M_ref03_within, F, false, ⟨?_⟩⟩
    rw [exec_ref03_within]
    refine hF _ ?_
    rfl
  · cases h
set_option maxRecDepth 100000 in
theorem entry_flat_of (F : Nat) (Post : AVal UU → Prop) (a0_Num : Int) (a0_Den : Int) : exec C_ref03_within Tryd.f26.ntmps M_flat_of F 0 (bo Tryd.f26) (initSt [.agg [.int .i64 a0_Num, .int .i64 a0_Den]]) (AEnds C_ref03_within false Tryd.f26 Post) = g_flat_of_e a0_Num a0_Den (fun r0_num r0_den => Post (.agg [.int .i64 r0_num, .int .i64 r0_den])) := by kernel_rfl
theorem exec_flat_of (F : Nat) (Post : AVal UU → Prop) (a0_Num : Int) (a0_Den : Int) : exec C_ref03_within Tryd.f26.ntmps M_flat_of F 0 (bo Tryd.f26) (initSt [.agg [.int .i64 a0_Num, .int .i64 a0_Den]]) (AEnds C_ref03_within false Tryd.f26 Post) = w_flat_of F a0_Num a0_Den (fun r0_num r0_den => Post (.agg [.int .i64 r0_num, .int .i64 r0_den])) := by
  rw [entry_flat_of]
  rfl
def m_flat_of : Model UU
  | [.agg [.int .i64 a0_Num, .int .i64 a0_Den]] => some ([], .agg [.int .i64 ((sp_flat_of a0_Num a0_Den).1), .int .i64 ((sp_flat_of a0_Num a0_Den).2)])
  | _ => none
def C_flat_of : Cfg UU := C_ref03_within.add 26 m_flat_of
theorem s_flat_of : SumOK C_flat_of := by
  refine s_ref03_within.addD mixed (fn := Tryd.f26) (c := bo Tryd.f26) Tryd.func26 (by kernel_rfl) (by kernel_rfl) ?_
  intro xs cs r h hc
  unfold m_flat_of at h
  split at h
  · rename_i a0_Num a0_Den
    cases h
    obtain ⟨F, hF⟩ := ok_flat_of a0_Num a0_Den
    refine ⟨by kernel_rfl, M_flat_of, F, false, ⟨?_⟩⟩
    rw [exec_flat_of]
    refine hF _ ?_
    rfl
  · cases h
set_option maxRecDepth 100000 in
theorem entry_flat_rational_rat (F : Nat) (Post : AVal UU → Prop) (a0_num : Int) (a0_den : Int) : exec C_flat_of Tryd.f28.ntmps M_flat_rational_rat F 0 (bo Tryd.f28) (initSt [.agg [.int .i64 a0_num, .int .i64 a0_den]]) (AEnds C_flat_of false Tryd.f28 Post) = g_flat_rational_rat_e a0_num a0_den (fun r0_Num r0_Den => Post (.agg [.int .i64 r0_Num, .int .i64 r0_Den])) := by kernel_rfl
theorem exec_flat_rational_rat (F : Nat) (Post : AVal UU → Prop) (a0_num : Int) (a0_den : Int) : exec C_flat_of Tryd.f28.ntmps M_flat_rational_rat F 0 (bo Tryd.f28) (initSt [.agg [.int .i64 a0_num, .int .i64 a0_den]]) (AEnds C_flat_of false Tryd.f28 Post) = w_flat_rational_rat F a0_num a0_den (fun r0_Num r0_Den => Post (.agg [.int .i64 r0_Num, .int .i64 r0_Den])) := by
  rw [entry_flat_rational_rat]
  rfl
def m_flat_rational_rat : Model UU
  | [.agg [.int .i64 a0_num, .int .i64 a0_den]] => some ([], .agg [.int .i64 ((sp_flat_rational_rat a0_num a0_den).1), .int .i64 ((sp_flat_rational_rat a0_num a0_den).2)])
  | _ => none
def C_flat_rational_rat : Cfg UU := C_flat_of.add 28 m_flat_rational_rat
theorem s_flat_rational_rat : SumOK C_flat_rational_rat := by
  refine s_flat_of.addD mixed (fn := Tryd.f28) (c := bo Tryd.f28) Tryd.func28 (by kernel_rfl) (by kernel_rfl) ?_
  intro xs cs r h hc
  unfold m_flat_rational_rat at h
  split at h
  · rename_i a0_num a0_den
    cases h
    obtain ⟨F, hF⟩ := ok_flat_rational_rat a0_num a0_den
    refine ⟨by kernel_rfl, M_flat_rational_rat, F, false, ⟨?_⟩⟩
    rw [exec_flat_rational_rat]
    refine hF _ ?_
    rfl
  · cases h
set_option maxRecDepth 100000 in
theorem entry_flat_valid (F : Nat) (Post : AVal UU → Prop) (a0_Num : Int) (a0_Den : Int) : exec C_flat_rational_rat Tryd.f25.ntmps M_flat_valid F 0 (bo Tryd.f25) (initSt [.agg [.int .i64 a0_Num, .int .i64 a0_Den]]) (AEnds C_flat_rational_rat false Tryd.f25 Post) = g_flat_valid_e a0_Num a0_Den (fun r0 => Post (.bool r0)) := by kernel_rfl
theorem exec_flat_valid (F : Nat) (Post : AVal UU → Prop) (a0_Num : Int) (a0_Den : Int) : exec C_flat_rational_rat Tryd.f25.ntmps M_flat_valid F 0 (bo Tryd.f25) (initSt [.agg [.int .i64 a0_Num, .int .i64 a0_Den]]) (AEnds C_flat_rational_rat false Tryd.f25 Post) = w_flat_valid F a0_Num a0_Den (fun r0 => Post (.bool r0)) := by
  rw [entry_flat_valid]
  rfl
def m_flat_valid : Model UU
  | [.agg [.int .i64 a0_Num, .int .i64 a0_Den]] => some ([], .bool (sp_flat_valid a0_Num a0_Den))
  | _ => none
def C_flat_valid : Cfg UU := C_flat_rational_rat.add 25 m_flat_valid
theorem s_flat_valid : SumOK C_flat_valid := by
  refine s_flat_rational_rat.addD mixed (fn := Tryd.f25) (c := bo Tryd.f25) Tryd.func25 (by kernel_rfl) (by kernel_rfl) ?_
  intro xs cs r h hc
  unfold m_flat_valid at h
  split at h
  · rename_i a0_Num a0_Den
    cases h
    obtain ⟨F, hF⟩ := ok_flat_valid a0_Num a0_Den
    refine ⟨by kernel_rfl, M_flat_valid, F, false, ⟨?_⟩⟩
    rw [exec_flat_valid]
    refine hF _ ?_
    rfl
  · cases h
end
end Go.Proofs.YtohecfbnmmgimaaDoor

namespace Go.Proofs.YtohecfbnmmgimaaDoor
open Go.Vm Go.RowKit
set_option linter.unusedVariables false
noncomputable section
def k_flat_Validate_0 (F : Nat) (Post : AVal UU → Prop) : AEx → ASt UU → Prop := kBlock 0 (kSeq C_flat_valid Tryd.f13.ntmps M_flat_Validate F 0 (cS (cS (cS (cS (bo Tryd.f13))))) (AEnds C_flat_valid false Tryd.f13 Post))
set_option maxRecDepth 100000 in
theorem step_flat_Validate_0 (F n r : Nat) (K : AEx → ASt UU → Prop) (t2 : Int) (t3 : Int) (t43 : List Ent) (t44 : Int) (t45 : Int) : iter (exec C_flat_valid Tryd.f13.ntmps M_flat_Validate F 0 (cL (cB (cS (cF (cS (cS (cS (bo Tryd.f13))))))))) (M_flat_Validate 0) (n + 1) r (st_flat_Validate_0 t2 t3 t43 t44 t45) K = g_flat_Validate_s0 (fun t2 t3 t43 t44 t45 => iter (exec C_flat_valid Tryd.f13.ntmps M_flat_Validate F 0 (cL (cB (cS (cF (cS (cS (cS (bo Tryd.f13))))))))) (M_flat_Validate 0) n (r + 1) (st_flat_Validate_0 t2 t3 t43 t44 t45) K) (fun t2 t3 t43 t44 t45 => K .ret (st_flat_Validate_0 t2 t3 t43 t44 t45)) (fun t2 t3 t43 t44 t45 => K (.exit 0) (st_flat_Validate_0 t2 t3 t43 t44 t45)) t2 t3 t43 t44 t45 := by kernel_rfl
set_option maxRecDepth 100000 in
theorem cont_flat_Validate_0_0 (F : Nat) (Post : AVal UU → Prop) (t2 : Int) (t3 : Int) (t43 : List Ent) (t44 : Int) (t45 : Int) : k_flat_Validate_0 F Post .ret (st_flat_Validate_0 t2 t3 t43 t44 t45) = g_flat_Validate_c0_0 (fun r0 => Post (.int .i64 r0)) t2 t3 t43 t44 t45 := by kernel_rfl
set_option maxRecDepth 100000 in
theorem cont_flat_Validate_0_1 (F : Nat) (Post : AVal UU → Prop) (t2 : Int) (t3 : Int) (t43 : List Ent) (t44 : Int) (t45 : Int) : k_flat_Validate_0 F Post (.exit 0) (st_flat_Validate_0 t2 t3 t43 t44 t45) = g_flat_Validate_c0_1 (fun r0 => Post (.int .i64 r0)) t2 t3 t43 t44 t45 := by kernel_rfl
set_option maxRecDepth 100000 in
theorem entry_flat_Validate (F : Nat) (Post : AVal UU → Prop) (a0_Material : ByteArray) (a0_Gauge : Int) (a0_Die : Int) (a0_Entries : List Ent) : exec C_flat_valid Tryd.f13.ntmps M_flat_Validate F 0 (bo Tryd.f13) (initSt [.agg [.str a0_Material, .int .i64 a0_Gauge, .int .i64 a0_Die, .sl .ent a0_Entries]]) (AEnds C_flat_valid false Tryd.f13 Post) = g_flat_Validate_e a0_Material a0_Gauge a0_Die a0_Entries (fun r0 => Post (.int .i64 r0)) (fun t2 t3 t43 t44 t45 => iter (exec C_flat_valid Tryd.f13.ntmps M_flat_Validate F 0 (cL (cB (cS (cF (cS (cS (cS (bo Tryd.f13))))))))) (M_flat_Validate 0) F 0 (st_flat_Validate_0 t2 t3 t43 t44 t45) (k_flat_Validate_0 F Post)) := by kernel_rfl
theorem loop_flat_Validate_0 (F : Nat) (K : AEx → ASt UU → Prop) : ∀ (n r : Nat) (t2 : Int) (t3 : Int) (t43 : List Ent) (t44 : Int) (t45 : Int), iter (exec C_flat_valid Tryd.f13.ntmps M_flat_Validate F 0 (cL (cB (cS (cF (cS (cS (cS (bo Tryd.f13))))))))) (M_flat_Validate 0) n r (st_flat_Validate_0 t2 t3 t43 t44 t45) K = w_flat_Validate_0 F  (fun t2 t3 t43 t44 t45 => K .ret (st_flat_Validate_0 t2 t3 t43 t44 t45)) (fun t2 t3 t43 t44 t45 => K (.exit 0) (st_flat_Validate_0 t2 t3 t43 t44 t45)) n t2 t3 t43 t44 t45 := by
  intro n
  induction n with
  | zero => intros; rfl
  | succ n ih =>
    intro r t2 t3 t43 t44 t45
    have e : (fun t2 t3 t43 t44 t45 => iter (exec C_flat_valid Tryd.f13.ntmps M_flat_Validate F 0 (cL (cB (cS (cF (cS (cS (cS (bo Tryd.f13))))))))) (M_flat_Validate 0) n (r + 1) (st_flat_Validate_0 t2 t3 t43 t44 t45) K) = w_flat_Validate_0 F  (fun t2 t3 t43 t44 t45 => K .ret (st_flat_Validate_0 t2 t3 t43 t44 t45)) (fun t2 t3 t43 t44 t45 => K (.exit 0) (st_flat_Validate_0 t2 t3 t43 t44 t45)) n := by
      funext t2 t3 t43 t44 t45
      exact ih (r + 1) t2 t3 t43 t44 t45
    rw [step_flat_Validate_0, e]
    rfl
theorem nl_flat_Validate_0 (F : Nat) (Post : AVal UU → Prop) (t2 : Int) (t3 : Int) (t43 : List Ent) (t44 : Int) (t45 : Int) : iter (exec C_flat_valid Tryd.f13.ntmps M_flat_Validate F 0 (cL (cB (cS (cF (cS (cS (cS (bo Tryd.f13))))))))) (M_flat_Validate 0) F 0 (st_flat_Validate_0 t2 t3 t43 t44 t45) (k_flat_Validate_0 F Post) = n_flat_Validate_0 F (fun r0 => Post (.int .i64 r0)) t2 t3 t43 t44 t45 := by
  rw [loop_flat_Validate_0]
  have h0 : (fun t2 t3 t43 t44 t45 => k_flat_Validate_0 F Post .ret (st_flat_Validate_0 t2 t3 t43 t44 t45)) = (fun t2 t3 t43 t44 t45 => g_flat_Validate_c0_0 (fun r0 => Post (.int .i64 r0)) t2 t3 t43 t44 t45) := by
    funext t2 t3 t43 t44 t45
    rw [cont_flat_Validate_0_0]
  have h1 : (fun t2 t3 t43 t44 t45 => k_flat_Validate_0 F Post (.exit 0) (st_flat_Validate_0 t2 t3 t43 t44 t45)) = (fun t2 t3 t43 t44 t45 => g_flat_Validate_c0_1 (fun r0 => Post (.int .i64 r0)) t2 t3 t43 t44 t45) := by
    funext t2 t3 t43 t44 t45
    rw [cont_flat_Validate_0_1]
  rw [h0, h1]
  rfl
theorem exec_flat_Validate (F : Nat) (Post : AVal UU → Prop) (a0_Material : ByteArray) (a0_Gauge : Int) (a0_Die : Int) (a0_Entries : List Ent) : exec C_flat_valid Tryd.f13.ntmps M_flat_Validate F 0 (bo Tryd.f13) (initSt [.agg [.str a0_Material, .int .i64 a0_Gauge, .int .i64 a0_Die, .sl .ent a0_Entries]]) (AEnds C_flat_valid false Tryd.f13 Post) = w_flat_Validate F a0_Material a0_Gauge a0_Die a0_Entries (fun r0 => Post (.int .i64 r0)) := by
  rw [entry_flat_Validate]
  have e0 : (fun t2 t3 t43 t44 t45 => iter (exec C_flat_valid Tryd.f13.ntmps M_flat_Validate F 0 (cL (cB (cS (cF (cS (cS (cS (bo Tryd.f13))))))))) (M_flat_Validate 0) F 0 (st_flat_Validate_0 t2 t3 t43 t44 t45) (k_flat_Validate_0 F Post)) = (n_flat_Validate_0 F (fun r0 => Post (.int .i64 r0))) := by
    funext t2 t3 t43 t44 t45
    exact nl_flat_Validate_0 F Post t2 t3 t43 t44 t45
  rw [e0]
  rfl
def m_flat_Validate : Model UU
  | [.agg [.str a0_Material, .int .i64 a0_Gauge, .int .i64 a0_Die, .sl .ent a0_Entries]] => some ([pre_flat_Validate a0_Material a0_Gauge a0_Die a0_Entries], .int .i64 (sp_flat_Validate a0_Material a0_Gauge a0_Die a0_Entries))
  | _ => none
def C_flat_Validate : Cfg UU := C_flat_valid.add 13 m_flat_Validate
theorem s_flat_Validate : SumOK C_flat_Validate := by
  refine s_flat_valid.addD mixed (fn := Tryd.f13) (c := bo Tryd.f13) Tryd.func13 (by kernel_rfl) (by kernel_rfl) ?_
  intro xs cs r h hc
  unfold m_flat_Validate at h
  split at h
  · rename_i a0_Material a0_Gauge a0_Die a0_Entries
    cases h
    obtain ⟨F, hF⟩ := ok_flat_Validate a0_Material a0_Gauge a0_Die a0_Entries hc
    refine ⟨by kernel_rfl, M_flat_Validate, F, false, ⟨?_⟩⟩
    rw [exec_flat_Validate]
    refine hF _ ?_
    rfl
  · cases h
def k_ref03_Validate_0 (F : Nat) (Post : AVal UU → Prop) : AEx → ASt UU → Prop := kBlock 0 (kSeq C_flat_Validate Tryd.f17.ntmps M_ref03_Validate F 0 (cS (cS (cS (bo Tryd.f17)))) (AEnds C_flat_Validate false Tryd.f17 Post))
set_option maxRecDepth 100000 in
theorem step_ref03_Validate_0 (F n r : Nat) (K : AEx → ASt UU → Prop) (t2 : Int) (t3 : Int) (c1_0 : ByteArray) (c1_1 : Int) (c1_2 : Int) (c1_3 : List Ent) : iter (exec C_flat_Validate Tryd.f17.ntmps M_ref03_Validate F 0 (cL (cB (cS (cF (cS (cS (bo Tryd.f17)))))))) (M_ref03_Validate 0) (n + 1) r (st_ref03_Validate_0 t2 t3 c1_0 c1_1 c1_2 c1_3) K = g_ref03_Validate_s0 (fun t2 t3 c1_0 c1_1 c1_2 c1_3 => iter (exec C_flat_Validate Tryd.f17.ntmps M_ref03_Validate F 0 (cL (cB (cS (cF (cS (cS (bo Tryd.f17)))))))) (M_ref03_Validate 0) n (r + 1) (st_ref03_Validate_0 t2 t3 c1_0 c1_1 c1_2 c1_3) K) (fun t2 t3 c1_0 c1_1 c1_2 c1_3 => K .ret (st_ref03_Validate_0 t2 t3 c1_0 c1_1 c1_2 c1_3)) (fun t2 t3 c1_0 c1_1 c1_2 c1_3 => K (.exit 0) (st_ref03_Validate_0 t2 t3 c1_0 c1_1 c1_2 c1_3)) t2 t3 c1_0 c1_1 c1_2 c1_3 := by kernel_rfl
set_option maxRecDepth 100000 in
theorem cont_ref03_Validate_0_0 (F : Nat) (Post : AVal UU → Prop) (t2 : Int) (t3 : Int) (c1_0 : ByteArray) (c1_1 : Int) (c1_2 : Int) (c1_3 : List Ent) : k_ref03_Validate_0 F Post .ret (st_ref03_Validate_0 t2 t3 c1_0 c1_1 c1_2 c1_3) = g_ref03_Validate_c0_0 (fun r0 => Post (.int .i64 r0)) t2 t3 c1_0 c1_1 c1_2 c1_3 := by kernel_rfl
set_option maxRecDepth 100000 in
theorem cont_ref03_Validate_0_1 (F : Nat) (Post : AVal UU → Prop) (t2 : Int) (t3 : Int) (c1_0 : ByteArray) (c1_1 : Int) (c1_2 : Int) (c1_3 : List Ent) : k_ref03_Validate_0 F Post (.exit 0) (st_ref03_Validate_0 t2 t3 c1_0 c1_1 c1_2 c1_3) = g_ref03_Validate_c0_1 (fun r0 => Post (.int .i64 r0)) t2 t3 c1_0 c1_1 c1_2 c1_3 := by kernel_rfl
set_option maxRecDepth 100000 in
theorem entry_ref03_Validate (F : Nat) (Post : AVal UU → Prop) (a0_Material : ByteArray) (a0_Gauge : Int) (a0_Die : Int) (a0_Entries : List Ent) : exec C_flat_Validate Tryd.f17.ntmps M_ref03_Validate F 0 (bo Tryd.f17) (initSt [.agg [.str a0_Material, .int .i64 a0_Gauge, .int .i64 a0_Die, .sl .ent a0_Entries]]) (AEnds C_flat_Validate false Tryd.f17 Post) = g_ref03_Validate_e a0_Material a0_Gauge a0_Die a0_Entries (fun r0 => Post (.int .i64 r0)) (fun t2 t3 c1_0 c1_1 c1_2 c1_3 => iter (exec C_flat_Validate Tryd.f17.ntmps M_ref03_Validate F 0 (cL (cB (cS (cF (cS (cS (bo Tryd.f17)))))))) (M_ref03_Validate 0) F 0 (st_ref03_Validate_0 t2 t3 c1_0 c1_1 c1_2 c1_3) (k_ref03_Validate_0 F Post)) := by kernel_rfl
theorem loop_ref03_Validate_0 (F : Nat) (K : AEx → ASt UU → Prop) : ∀ (n r : Nat) (t2 : Int) (t3 : Int) (c1_0 : ByteArray) (c1_1 : Int) (c1_2 : Int) (c1_3 : List Ent), iter (exec C_flat_Validate Tryd.f17.ntmps M_ref03_Validate F 0 (cL (cB (cS (cF (cS (cS (bo Tryd.f17)))))))) (M_ref03_Validate 0) n r (st_ref03_Validate_0 t2 t3 c1_0 c1_1 c1_2 c1_3) K = w_ref03_Validate_0 F  (fun t2 t3 c1_0 c1_1 c1_2 c1_3 => K .ret (st_ref03_Validate_0 t2 t3 c1_0 c1_1 c1_2 c1_3)) (fun t2 t3 c1_0 c1_1 c1_2 c1_3 => K (.exit 0) (st_ref03_Validate_0 t2 t3 c1_0 c1_1 c1_2 c1_3)) n t2 t3 c1_0 c1_1 c1_2 c1_3 := by
  intro n
  induction n with
  | zero => intros; rfl
  | succ n ih =>
    intro r t2 t3 c1_0 c1_1 c1_2 c1_3
    have e : (fun t2 t3 c1_0 c1_1 c1_2 c1_3 => iter (exec C_flat_Validate Tryd.f17.ntmps M_ref03_Validate F 0 (cL (cB (cS (cF (cS (cS (bo Tryd.f17)))))))) (M_ref03_Validate 0) n (r + 1) (st_ref03_Validate_0 t2 t3 c1_0 c1_1 c1_2 c1_3) K) = w_ref03_Validate_0 F  (fun t2 t3 c1_0 c1_1 c1_2 c1_3 => K .ret (st_ref03_Validate_0 t2 t3 c1_0 c1_1 c1_2 c1_3)) (fun t2 t3 c1_0 c1_1 c1_2 c1_3 => K (.exit 0) (st_ref03_Validate_0 t2 t3 c1_0 c1_1 c1_2 c1_3)) n := by
      funext t2 t3 c1_0 c1_1 c1_2 c1_3
      exact ih (r + 1) t2 t3 c1_0 c1_1 c1_2 c1_3
    rw [step_ref03_Validate_0, e]
    rfl
theorem nl_ref03_Validate_0 (F : Nat) (Post : AVal UU → Prop) (t2 : Int) (t3 : Int) (c1_0 : ByteArray) (c1_1 : Int) (c1_2 : Int) (c1_3 : List Ent) : iter (exec C_flat_Validate Tryd.f17.ntmps M_ref03_Validate F 0 (cL (cB (cS (cF (cS (cS (bo Tryd.f17)))))))) (M_ref03_Validate 0) F 0 (st_ref03_Validate_0 t2 t3 c1_0 c1_1 c1_2 c1_3) (k_ref03_Validate_0 F Post) = n_ref03_Validate_0 F (fun r0 => Post (.int .i64 r0)) t2 t3 c1_0 c1_1 c1_2 c1_3 := by
  rw [loop_ref03_Validate_0]
  have h0 : (fun t2 t3 c1_0 c1_1 c1_2 c1_3 => k_ref03_Validate_0 F Post .ret (st_ref03_Validate_0 t2 t3 c1_0 c1_1 c1_2 c1_3)) = (fun t2 t3 c1_0 c1_1 c1_2 c1_3 => g_ref03_Validate_c0_0 (fun r0 => Post (.int .i64 r0)) t2 t3 c1_0 c1_1 c1_2 c1_3) := by
    funext t2 t3 c1_0 c1_1 c1_2 c1_3
    rw [cont_ref03_Validate_0_0]
  have h1 : (fun t2 t3 c1_0 c1_1 c1_2 c1_3 => k_ref03_Validate_0 F Post (.exit 0) (st_ref03_Validate_0 t2 t3 c1_0 c1_1 c1_2 c1_3)) = (fun t2 t3 c1_0 c1_1 c1_2 c1_3 => g_ref03_Validate_c0_1 (fun r0 => Post (.int .i64 r0)) t2 t3 c1_0 c1_1 c1_2 c1_3) := by
    funext t2 t3 c1_0 c1_1 c1_2 c1_3
    rw [cont_ref03_Validate_0_1]
  rw [h0, h1]
  rfl
theorem exec_ref03_Validate (F : Nat) (Post : AVal UU → Prop) (a0_Material : ByteArray) (a0_Gauge : Int) (a0_Die : Int) (a0_Entries : List Ent) : exec C_flat_Validate Tryd.f17.ntmps M_ref03_Validate F 0 (bo Tryd.f17) (initSt [.agg [.str a0_Material, .int .i64 a0_Gauge, .int .i64 a0_Die, .sl .ent a0_Entries]]) (AEnds C_flat_Validate false Tryd.f17 Post) = w_ref03_Validate F a0_Material a0_Gauge a0_Die a0_Entries (fun r0 => Post (.int .i64 r0)) := by
  rw [entry_ref03_Validate]
  have e0 : (fun t2 t3 c1_0 c1_1 c1_2 c1_3 => iter (exec C_flat_Validate Tryd.f17.ntmps M_ref03_Validate F 0 (cL (cB (cS (cF (cS (cS (bo Tryd.f17)))))))) (M_ref03_Validate 0) F 0 (st_ref03_Validate_0 t2 t3 c1_0 c1_1 c1_2 c1_3) (k_ref03_Validate_0 F Post)) = (n_ref03_Validate_0 F (fun r0 => Post (.int .i64 r0))) := by
    funext t2 t3 c1_0 c1_1 c1_2 c1_3
    exact nl_ref03_Validate_0 F Post t2 t3 c1_0 c1_1 c1_2 c1_3
  rw [e0]
  rfl
def m_ref03_Validate : Model UU
  | [.agg [.str a0_Material, .int .i64 a0_Gauge, .int .i64 a0_Die, .sl .ent a0_Entries]] => some ([pre_ref03_Validate a0_Material a0_Gauge a0_Die a0_Entries], .int .i64 (sp_ref03_Validate a0_Material a0_Gauge a0_Die a0_Entries))
  | _ => none
def C_ref03_Validate : Cfg UU := C_flat_Validate.add 17 m_ref03_Validate
theorem s_ref03_Validate : SumOK C_ref03_Validate := by
  refine s_flat_Validate.addD mixed (fn := Tryd.f17) (c := bo Tryd.f17) Tryd.func17 (by kernel_rfl) (by kernel_rfl) ?_
  intro xs cs r h hc
  unfold m_ref03_Validate at h
  split at h
  · rename_i a0_Material a0_Gauge a0_Die a0_Entries
    cases h
    obtain ⟨F, hF⟩ := ok_ref03_Validate a0_Material a0_Gauge a0_Die a0_Entries hc
    refine ⟨by kernel_rfl, M_ref03_Validate, F, false, ⟨?_⟩⟩
    rw [exec_ref03_Validate]
    refine hF _ ?_
    rfl
  · cases h
end
end Go.Proofs.YtohecfbnmmgimaaDoor

namespace Go.Proofs.YtohecfbnmmgimaaDoor
open Go.Vm Go.RowKit
set_option linter.unusedVariables false
noncomputable section
def k_flat_rational_reduced_0 (F : Nat) (Post : AVal UU → Prop) : AEx → ASt UU → Prop := kBlock 0 (kSeq C_ref03_Validate Tryd.f27.ntmps M_flat_rational_reduced F 0 (cS (cS (cS (cS (bo Tryd.f27))))) (AEnds C_ref03_Validate false Tryd.f27 Post))
set_option maxRecDepth 100000 in
theorem step_flat_rational_reduced_0 (F n r : Nat) (K : AEx → ASt UU → Prop) (t3 : Int) (t4 : Int) (c1_0 : Int) (c1_1 : Int) (c2_0 : Int) (c2_1 : Int) : iter (exec C_ref03_Validate Tryd.f27.ntmps M_flat_rational_reduced F 0 (cL (cB (cF (cS (cS (cS (bo Tryd.f27)))))))) (M_flat_rational_reduced 0) (n + 1) r (st_flat_rational_reduced_0 t3 t4 c1_0 c1_1 c2_0 c2_1) K = g_flat_rational_reduced_s0 (fun t3 t4 c1_0 c1_1 c2_0 c2_1 => iter (exec C_ref03_Validate Tryd.f27.ntmps M_flat_rational_reduced F 0 (cL (cB (cF (cS (cS (cS (bo Tryd.f27)))))))) (M_flat_rational_reduced 0) n (r + 1) (st_flat_rational_reduced_0 t3 t4 c1_0 c1_1 c2_0 c2_1) K) (fun t3 t4 c1_0 c1_1 c2_0 c2_1 => K (.exit 0) (st_flat_rational_reduced_0 t3 t4 c1_0 c1_1 c2_0 c2_1)) t3 t4 c1_0 c1_1 c2_0 c2_1 := by kernel_rfl
set_option maxRecDepth 100000 in
theorem cont_flat_rational_reduced_0_0 (F : Nat) (Post : AVal UU → Prop) (t3 : Int) (t4 : Int) (c1_0 : Int) (c1_1 : Int) (c2_0 : Int) (c2_1 : Int) : k_flat_rational_reduced_0 F Post (.exit 0) (st_flat_rational_reduced_0 t3 t4 c1_0 c1_1 c2_0 c2_1) = g_flat_rational_reduced_c0_0 (fun r0_num r0_den => Post (.agg [.int .i64 r0_num, .int .i64 r0_den])) t3 t4 c1_0 c1_1 c2_0 c2_1 := by kernel_rfl
set_option maxRecDepth 100000 in
theorem entry_flat_rational_reduced (F : Nat) (Post : AVal UU → Prop) (a0_num : Int) (a0_den : Int) : exec C_ref03_Validate Tryd.f27.ntmps M_flat_rational_reduced F 0 (bo Tryd.f27) (initSt [.agg [.int .i64 a0_num, .int .i64 a0_den]]) (AEnds C_ref03_Validate false Tryd.f27 Post) = g_flat_rational_reduced_e a0_num a0_den (fun r0_num r0_den => Post (.agg [.int .i64 r0_num, .int .i64 r0_den])) (fun t3 t4 c1_0 c1_1 c2_0 c2_1 => iter (exec C_ref03_Validate Tryd.f27.ntmps M_flat_rational_reduced F 0 (cL (cB (cF (cS (cS (cS (bo Tryd.f27)))))))) (M_flat_rational_reduced 0) F 0 (st_flat_rational_reduced_0 t3 t4 c1_0 c1_1 c2_0 c2_1) (k_flat_rational_reduced_0 F Post)) := by kernel_rfl
theorem loop_flat_rational_reduced_0 (F : Nat) (K : AEx → ASt UU → Prop) : ∀ (n r : Nat) (t3 : Int) (t4 : Int) (c1_0 : Int) (c1_1 : Int) (c2_0 : Int) (c2_1 : Int), iter (exec C_ref03_Validate Tryd.f27.ntmps M_flat_rational_reduced F 0 (cL (cB (cF (cS (cS (cS (bo Tryd.f27)))))))) (M_flat_rational_reduced 0) n r (st_flat_rational_reduced_0 t3 t4 c1_0 c1_1 c2_0 c2_1) K = w_flat_rational_reduced_0 F  (fun t3 t4 c1_0 c1_1 c2_0 c2_1 => K (.exit 0) (st_flat_rational_reduced_0 t3 t4 c1_0 c1_1 c2_0 c2_1)) n t3 t4 c1_0 c1_1 c2_0 c2_1 := by
  intro n
  induction n with
  | zero => intros; rfl
  | succ n ih =>
    intro r t3 t4 c1_0 c1_1 c2_0 c2_1
    have e : (fun t3 t4 c1_0 c1_1 c2_0 c2_1 => iter (exec C_ref03_Validate Tryd.f27.ntmps M_flat_rational_reduced F 0 (cL (cB (cF (cS (cS (cS (bo Tryd.f27)))))))) (M_flat_rational_reduced 0) n (r + 1) (st_flat_rational_reduced_0 t3 t4 c1_0 c1_1 c2_0 c2_1) K) = w_flat_rational_reduced_0 F  (fun t3 t4 c1_0 c1_1 c2_0 c2_1 => K (.exit 0) (st_flat_rational_reduced_0 t3 t4 c1_0 c1_1 c2_0 c2_1)) n := by
      funext t3 t4 c1_0 c1_1 c2_0 c2_1
      exact ih (r + 1) t3 t4 c1_0 c1_1 c2_0 c2_1
    rw [step_flat_rational_reduced_0, e]
    rfl
theorem nl_flat_rational_reduced_0 (F : Nat) (Post : AVal UU → Prop) (t3 : Int) (t4 : Int) (c1_0 : Int) (c1_1 : Int) (c2_0 : Int) (c2_1 : Int) : iter (exec C_ref03_Validate Tryd.f27.ntmps M_flat_rational_reduced F 0 (cL (cB (cF (cS (cS (cS (bo Tryd.f27)))))))) (M_flat_rational_reduced 0) F 0 (st_flat_rational_reduced_0 t3 t4 c1_0 c1_1 c2_0 c2_1) (k_flat_rational_reduced_0 F Post) = n_flat_rational_reduced_0 F (fun r0_num r0_den => Post (.agg [.int .i64 r0_num, .int .i64 r0_den])) t3 t4 c1_0 c1_1 c2_0 c2_1 := by
  rw [loop_flat_rational_reduced_0]
  have h0 : (fun t3 t4 c1_0 c1_1 c2_0 c2_1 => k_flat_rational_reduced_0 F Post (.exit 0) (st_flat_rational_reduced_0 t3 t4 c1_0 c1_1 c2_0 c2_1)) = (fun t3 t4 c1_0 c1_1 c2_0 c2_1 => g_flat_rational_reduced_c0_0 (fun r0_num r0_den => Post (.agg [.int .i64 r0_num, .int .i64 r0_den])) t3 t4 c1_0 c1_1 c2_0 c2_1) := by
    funext t3 t4 c1_0 c1_1 c2_0 c2_1
    rw [cont_flat_rational_reduced_0_0]
  rw [h0]
  rfl
theorem exec_flat_rational_reduced (F : Nat) (Post : AVal UU → Prop) (a0_num : Int) (a0_den : Int) : exec C_ref03_Validate Tryd.f27.ntmps M_flat_rational_reduced F 0 (bo Tryd.f27) (initSt [.agg [.int .i64 a0_num, .int .i64 a0_den]]) (AEnds C_ref03_Validate false Tryd.f27 Post) = w_flat_rational_reduced F a0_num a0_den (fun r0_num r0_den => Post (.agg [.int .i64 r0_num, .int .i64 r0_den])) := by
  rw [entry_flat_rational_reduced]
  have e0 : (fun t3 t4 c1_0 c1_1 c2_0 c2_1 => iter (exec C_ref03_Validate Tryd.f27.ntmps M_flat_rational_reduced F 0 (cL (cB (cF (cS (cS (cS (bo Tryd.f27)))))))) (M_flat_rational_reduced 0) F 0 (st_flat_rational_reduced_0 t3 t4 c1_0 c1_1 c2_0 c2_1) (k_flat_rational_reduced_0 F Post)) = (n_flat_rational_reduced_0 F (fun r0_num r0_den => Post (.agg [.int .i64 r0_num, .int .i64 r0_den]))) := by
    funext t3 t4 c1_0 c1_1 c2_0 c2_1
    exact nl_flat_rational_reduced_0 F Post t3 t4 c1_0 c1_1 c2_0 c2_1
  rw [e0]
  rfl
def m_flat_rational_reduced : Model UU
  | [.agg [.int .i64 a0_num, .int .i64 a0_den]] => some ([pre_flat_rational_reduced a0_num a0_den], .agg [.int .i64 ((sp_flat_rational_reduced a0_num a0_den).1), .int .i64 ((sp_flat_rational_reduced a0_num a0_den).2)])
  | _ => none
def C_flat_rational_reduced : Cfg UU := C_ref03_Validate.add 27 m_flat_rational_reduced
theorem s_flat_rational_reduced : SumOK C_flat_rational_reduced := by
  refine s_ref03_Validate.addD mixed (fn := Tryd.f27) (c := bo Tryd.f27) Tryd.func27 (by kernel_rfl) (by kernel_rfl) ?_
  intro xs cs r h hc
  unfold m_flat_rational_reduced at h
  split at h
  · rename_i a0_num a0_den
    cases h
    obtain ⟨F, hF⟩ := ok_flat_rational_reduced a0_num a0_den hc
    refine ⟨by kernel_rfl, M_flat_rational_reduced, F, false, ⟨?_⟩⟩
    rw [exec_flat_rational_reduced]
    refine hF _ ?_
    rfl
  · cases h
end
end Go.Proofs.YtohecfbnmmgimaaDoor

namespace Go.Proofs.YtohecfbnmmgimaaDoor
open Go.Vm Go.RowKit
set_option linter.unusedVariables false
noncomputable section
set_option maxRecDepth 100000 in
theorem entry_flat_rational_times (F : Nat) (Post : AVal UU → Prop) (a0_num : Int) (a0_den : Int) (a1_num : Int) (a1_den : Int) : exec C_flat_rational_reduced Tryd.f29.ntmps M_flat_rational_times F 0 (bo Tryd.f29) (initSt [.agg [.int .i64 a0_num, .int .i64 a0_den], .agg [.int .i64 a1_num, .int .i64 a1_den]]) (AEnds C_flat_rational_reduced false Tryd.f29 Post) = g_flat_rational_times_e a0_num a0_den a1_num a1_den (fun r0_num r0_den => Post (.agg [.int .i64 r0_num, .int .i64 r0_den])) := by kernel_rfl
theorem exec_flat_rational_times (F : Nat) (Post : AVal UU → Prop) (a0_num : Int) (a0_den : Int) (a1_num : Int) (a1_den : Int) : exec C_flat_rational_reduced Tryd.f29.ntmps M_flat_rational_times F 0 (bo Tryd.f29) (initSt [.agg [.int .i64 a0_num, .int .i64 a0_den], .agg [.int .i64 a1_num, .int .i64 a1_den]]) (AEnds C_flat_rational_reduced false Tryd.f29 Post) = w_flat_rational_times F a0_num a0_den a1_num a1_den (fun r0_num r0_den => Post (.agg [.int .i64 r0_num, .int .i64 r0_den])) := by
  rw [entry_flat_rational_times]
  rfl
def m_flat_rational_times : Model UU
  | [.agg [.int .i64 a0_num, .int .i64 a0_den], .agg [.int .i64 a1_num, .int .i64 a1_den]] => some ([pre_flat_rational_times a0_num a0_den a1_num a1_den], .agg [.int .i64 ((sp_flat_rational_times a0_num a0_den a1_num a1_den).1), .int .i64 ((sp_flat_rational_times a0_num a0_den a1_num a1_den).2)])
  | _ => none
def C_flat_rational_times : Cfg UU := C_flat_rational_reduced.add 29 m_flat_rational_times
theorem s_flat_rational_times : SumOK C_flat_rational_times := by
  refine s_flat_rational_reduced.addD mixed (fn := Tryd.f29) (c := bo Tryd.f29) Tryd.func29 (by kernel_rfl) (by kernel_rfl) ?_
  intro xs cs r h hc
  unfold m_flat_rational_times at h
  split at h
  · rename_i a0_num a0_den a1_num a1_den
    cases h
    obtain ⟨F, hF⟩ := ok_flat_rational_times a0_num a0_den a1_num a1_den hc
    refine ⟨by kernel_rfl, M_flat_rational_times, F, false, ⟨?_⟩⟩
    rw [exec_flat_rational_times]
    refine hF _ ?_
    rfl
  · cases h
set_option maxRecDepth 100000 in
theorem entry_flat_Reduce (F : Nat) (Post : AVal UU → Prop) (a0_Num : Int) (a0_Den : Int) : exec C_flat_rational_times Tryd.f11.ntmps M_flat_Reduce F 0 (bo Tryd.f11) (initSt [.agg [.int .i64 a0_Num, .int .i64 a0_Den]]) (AEnds C_flat_rational_times false Tryd.f11 Post) = g_flat_Reduce_e a0_Num a0_Den (fun r0_Num r0_Den r1 => Post (.tup [.agg [.int .i64 r0_Num, .int .i64 r0_Den], .int .i64 r1])) := by kernel_rfl
theorem exec_flat_Reduce (F : Nat) (Post : AVal UU → Prop) (a0_Num : Int) (a0_Den : Int) : exec C_flat_rational_times Tryd.f11.ntmps M_flat_Reduce F 0 (bo Tryd.f11) (initSt [.agg [.int .i64 a0_Num, .int .i64 a0_Den]]) (AEnds C_flat_rational_times false Tryd.f11 Post) = w_flat_Reduce F a0_Num a0_Den (fun r0_Num r0_Den r1 => Post (.tup [.agg [.int .i64 r0_Num, .int .i64 r0_Den], .int .i64 r1])) := by
  rw [entry_flat_Reduce]
  rfl
def m_flat_Reduce : Model UU
  | [.agg [.int .i64 a0_Num, .int .i64 a0_Den]] => some ([pre_flat_Reduce a0_Num a0_Den], .tup [.agg [.int .i64 ((sp_flat_Reduce a0_Num a0_Den).1), .int .i64 ((sp_flat_Reduce a0_Num a0_Den).2.1)], .int .i64 ((sp_flat_Reduce a0_Num a0_Den).2.2)])
  | _ => none
def C_flat_Reduce : Cfg UU := C_flat_rational_times.add 11 m_flat_Reduce
theorem s_flat_Reduce : SumOK C_flat_Reduce := by
  refine s_flat_rational_times.addD mixed (fn := Tryd.f11) (c := bo Tryd.f11) Tryd.func11 (by kernel_rfl) (by kernel_rfl) ?_
  intro xs cs r h hc
  unfold m_flat_Reduce at h
  split at h
  · rename_i a0_Num a0_Den
    cases h
    obtain ⟨F, hF⟩ := ok_flat_Reduce a0_Num a0_Den hc
    refine ⟨by kernel_rfl, M_flat_Reduce, F, false, ⟨?_⟩⟩
    rw [exec_flat_Reduce]
    refine hF _ ?_
    rfl
  · cases h
end
end Go.Proofs.YtohecfbnmmgimaaDoor

namespace Go.Proofs.YtohecfbnmmgimaaDoor
open Go.Vm Go.RowKit
set_option linter.unusedVariables false
noncomputable section
set_option maxRecDepth 100000 in
theorem entry_flat_Ticks (F : Nat) (Post : AVal UU → Prop) (a0_Num : Int) (a0_Den : Int) : exec C_flat_Reduce Tryd.f12.ntmps M_flat_Ticks F 0 (bo Tryd.f12) (initSt [.agg [.int .i64 a0_Num, .int .i64 a0_Den]]) (AEnds C_flat_Reduce false Tryd.f12 Post) = g_flat_Ticks_e a0_Num a0_Den (fun r0 r1 => Post (.tup [.int .i64 r0, .int .i64 r1])) := by kernel_rfl
theorem exec_flat_Ticks (F : Nat) (Post : AVal UU → Prop) (a0_Num : Int) (a0_Den : Int) : exec C_flat_Reduce Tryd.f12.ntmps M_flat_Ticks F 0 (bo Tryd.f12) (initSt [.agg [.int .i64 a0_Num, .int .i64 a0_Den]]) (AEnds C_flat_Reduce false Tryd.f12 Post) = w_flat_Ticks F a0_Num a0_Den (fun r0 r1 => Post (.tup [.int .i64 r0, .int .i64 r1])) := by
  rw [entry_flat_Ticks]
  rfl
def m_flat_Ticks : Model UU
  | [.agg [.int .i64 a0_Num, .int .i64 a0_Den]] => some ([pre_flat_Ticks a0_Num a0_Den], .tup [.int .i64 ((sp_flat_Ticks a0_Num a0_Den).1), .int .i64 ((sp_flat_Ticks a0_Num a0_Den).2)])
  | _ => none
def C_flat_Ticks : Cfg UU := C_flat_Reduce.add 12 m_flat_Ticks
theorem s_flat_Ticks : SumOK C_flat_Ticks := by
  refine s_flat_Reduce.addD mixed (fn := Tryd.f12) (c := bo Tryd.f12) Tryd.func12 (by kernel_rfl) (by kernel_rfl) ?_
  intro xs cs r h hc
  unfold m_flat_Ticks at h
  split at h
  · rename_i a0_Num a0_Den
    cases h
    obtain ⟨F, hF⟩ := ok_flat_Ticks a0_Num a0_Den hc
    refine ⟨by kernel_rfl, M_flat_Ticks, F, false, ⟨?_⟩⟩
    rw [exec_flat_Ticks]
    refine hF _ ?_
    rfl
  · cases h
end
end Go.Proofs.YtohecfbnmmgimaaDoor

namespace Go.Proofs.YtohecfbnmmgimaaDoor
open Go.Vm Go.RowKit
set_option linter.unusedVariables false
noncomputable section
set_option maxRecDepth 100000 in
theorem entry_law03_known (F : Nat) (Post : AVal UU → Prop)  : exec C_flat_Ticks Tryd.f5.ntmps M_law03_known F 0 (bo Tryd.f5) (initSt []) (AEnds C_flat_Ticks false Tryd.f5 Post) = g_law03_known_e  (fun r0 => Post (.bool r0)) := by kernel_rfl
theorem exec_law03_known (F : Nat) (Post : AVal UU → Prop)  : exec C_flat_Ticks Tryd.f5.ntmps M_law03_known F 0 (bo Tryd.f5) (initSt []) (AEnds C_flat_Ticks false Tryd.f5 Post) = w_law03_known F  (fun r0 => Post (.bool r0)) := by
  rw [entry_law03_known]
  rfl
def m_law03_known : Model UU
  | [] => some ([pre_law03_known ], .bool sp_law03_known)
  | _ => none
def C_law03_known : Cfg UU := C_flat_Ticks.add 5 m_law03_known
theorem s_law03_known : SumOK C_law03_known := by
  refine s_flat_Ticks.addD mixed (fn := Tryd.f5) (c := bo Tryd.f5) Tryd.func5 (by kernel_rfl) (by kernel_rfl) ?_
  intro xs cs r h hc
  unfold m_law03_known at h
  split at h
  · cases h
    obtain ⟨F, hF⟩ := ok_law03_known  hc
    refine ⟨by kernel_rfl, M_law03_known, F, false, ⟨?_⟩⟩
    rw [exec_law03_known]
    refine hF _ ?_
    rfl
  · cases h
set_option maxRecDepth 100000 in
theorem entry_law03_Wide (F : Nat) (Post : AVal UU → Prop) (a0_Material : ByteArray) (a0_Gauge : Int) (a0_Die : Int) (a0_Entries : List Ent) : exec C_law03_known Tryd.f4.ntmps M_law03_Wide F 0 (bo Tryd.f4) (initSt [.agg [.str a0_Material, .int .i64 a0_Gauge, .int .i64 a0_Die, .sl .ent a0_Entries]]) (AEnds C_law03_known false Tryd.f4 Post) = g_law03_Wide_e a0_Material a0_Gauge a0_Die a0_Entries (fun r0 => Post (.bool r0)) := by kernel_rfl
theorem exec_law03_Wide (F : Nat) (Post : AVal UU → Prop) (a0_Material : ByteArray) (a0_Gauge : Int) (a0_Die : Int) (a0_Entries : List Ent) : exec C_law03_known Tryd.f4.ntmps M_law03_Wide F 0 (bo Tryd.f4) (initSt [.agg [.str a0_Material, .int .i64 a0_Gauge, .int .i64 a0_Die, .sl .ent a0_Entries]]) (AEnds C_law03_known false Tryd.f4 Post) = w_law03_Wide F a0_Material a0_Gauge a0_Die a0_Entries (fun r0 => Post (.bool r0)) := by
  rw [entry_law03_Wide]
  rfl
def m_law03_Wide : Model UU
  | [.agg [.str a0_Material, .int .i64 a0_Gauge, .int .i64 a0_Die, .sl .ent a0_Entries]] => some ([], .bool (sp_law03_Wide a0_Material a0_Gauge a0_Die a0_Entries))
  | _ => none
def C_law03_Wide : Cfg UU := C_law03_known.add 4 m_law03_Wide
theorem s_law03_Wide : SumOK C_law03_Wide := by
  refine s_law03_known.addD mixed (fn := Tryd.f4) (c := bo Tryd.f4) Tryd.func4 (by kernel_rfl) (by kernel_rfl) ?_
  intro xs cs r h hc
  unfold m_law03_Wide at h
  split at h
  · rename_i a0_Material a0_Gauge a0_Die a0_Entries
    cases h
    obtain ⟨F, hF⟩ := ok_law03_Wide a0_Material a0_Gauge a0_Die a0_Entries
    refine ⟨by kernel_rfl, M_law03_Wide, F, false, ⟨?_⟩⟩
    rw [exec_law03_Wide]
    refine hF _ ?_
    rfl
  · cases h
end
end Go.Proofs.YtohecfbnmmgimaaDoor

namespace Go.Proofs.YtohecfbnmmgimaaDoor
open Go.Vm Go.RowKit
set_option linter.unusedVariables false
noncomputable section
set_option maxRecDepth 100000 in
theorem entry_flat_ParseTable_1 (F : Nat) (Post : AVal UU → AObj UU → Prop) (a0 : ByteArray) (ok : Bool) : exec C_law03_Wide Tryd.f19.ntmps M_flat_ParseTable_1 F 0 (bo Tryd.f19) (initE [.str a0, .ptr 1 0] 1 (.cells [.bool ok])) (EEnds C_law03_Wide Tryd.f19 1 Post) = g_flat_ParseTable_1_e a0 ok (fun r0 q0 => Post (.int .i64 r0) (.cells [.bool q0])) := by kernel_rfl
theorem exec_flat_ParseTable_1 (F : Nat) (Post : AVal UU → AObj UU → Prop) (a0 : ByteArray) (ok : Bool) : exec C_law03_Wide Tryd.f19.ntmps M_flat_ParseTable_1 F 0 (bo Tryd.f19) (initE [.str a0, .ptr 1 0] 1 (.cells [.bool ok])) (EEnds C_law03_Wide Tryd.f19 1 Post) = w_flat_ParseTable_1 F a0 ok (fun r0 q0 => Post (.int .i64 r0) (.cells [.bool q0])) := by
  rw [entry_flat_ParseTable_1]
  rfl
def e_flat_ParseTable_1 : EModel UU
  | [.str a0, .ptr 1 0], .cells [.bool ok] => some ([pre_flat_ParseTable_1 a0 ok], .int .i64 ((sp_flat_ParseTable_1 a0 ok).1), .cells [.bool ((sp_flat_ParseTable_1 a0 ok).2)])
  | _, _ => none
def C_flat_ParseTable_1 : Cfg UU := C_law03_Wide.addEff 19 e_flat_ParseTable_1
theorem s_flat_ParseTable_1 : SumOK C_flat_ParseTable_1 := by
  refine s_law03_Wide.addEff mixed (fn := Tryd.f19) (c := bo Tryd.f19) Tryd.func19 (by kernel_rfl) (by kernel_rfl) ?_
  intro xs ob cs r ob2 k0 h hc ho
  unfold e_flat_ParseTable_1 at h
  split at h
  · rename_i a0 ok
    cases h
    obtain rfl : 1 = k0 := by cases ho; rfl
    obtain ⟨F, hF⟩ := ok_flat_ParseTable_1 a0 ok hc
    refine ⟨by kernel_rfl, ⟨0, rfl⟩, rfl, M_flat_ParseTable_1, F, fun _ _ => List.mem_singleton.2 rfl, ?_⟩
    rw [exec_flat_ParseTable_1]
    refine hF _ ?_
    exact ⟨rfl, rfl⟩
  · cases h
end
end Go.Proofs.YtohecfbnmmgimaaDoor

namespace Go.Proofs.YtohecfbnmmgimaaDoor
open Go.Vm Go.RowKit
set_option linter.unusedVariables false
noncomputable section
def k_flat_FormatTable_0 (F : Nat) (Post : AVal UU → Prop) : AEx → ASt UU → Prop := kBlock 0 (kSeq C_flat_ParseTable_1 Tryd.f6.ntmps M_flat_FormatTable F 0 (cS (cS (cS (cS (cS (bo Tryd.f6)))))) (AEnds C_flat_ParseTable_1 false Tryd.f6 Post))
set_option maxRecDepth 100000 in
theorem step_flat_FormatTable_0 (F n r : Nat) (K : AEx → ASt UU → Prop) (t29 : List Ent) (t30 : Int) (t31 : Int) (o5 : ByteArray) : iter (exec C_flat_ParseTable_1 Tryd.f6.ntmps M_flat_FormatTable F 0 (cL (cB (cS (cF (cS (cS (cS (cS (bo Tryd.f6)))))))))) (M_flat_FormatTable 0) (n + 1) r (st_flat_FormatTable_0 t29 t30 t31 o5) K = g_flat_FormatTable_s0 (fun t29 t30 t31 o5 => iter (exec C_flat_ParseTable_1 Tryd.f6.ntmps M_flat_FormatTable F 0 (cL (cB (cS (cF (cS (cS (cS (cS (bo Tryd.f6)))))))))) (M_flat_FormatTable 0) n (r + 1) (st_flat_FormatTable_0 t29 t30 t31 o5) K) (fun t29 t30 t31 o5 => K (.exit 0) (st_flat_FormatTable_0 t29 t30 t31 o5)) t29 t30 t31 o5 := by kernel_rfl
set_option maxRecDepth 100000 in
theorem cont_flat_FormatTable_0_0 (F : Nat) (Post : AVal UU → Prop) (t29 : List Ent) (t30 : Int) (t31 : Int) (o5 : ByteArray) : k_flat_FormatTable_0 F Post (.exit 0) (st_flat_FormatTable_0 t29 t30 t31 o5) = g_flat_FormatTable_c0_0 (fun r0 r1 => Post (.tup [.str r0, .int .i64 r1])) t29 t30 t31 o5 := by kernel_rfl
set_option maxRecDepth 100000 in
theorem entry_flat_FormatTable (F : Nat) (Post : AVal UU → Prop) (a0_Material : ByteArray) (a0_Gauge : Int) (a0_Die : Int) (a0_Entries : List Ent) : exec C_flat_ParseTable_1 Tryd.f6.ntmps M_flat_FormatTable F 0 (bo Tryd.f6) (initSt [.agg [.str a0_Material, .int .i64 a0_Gauge, .int .i64 a0_Die, .sl .ent a0_Entries]]) (AEnds C_flat_ParseTable_1 false Tryd.f6 Post) = g_flat_FormatTable_e a0_Material a0_Gauge a0_Die a0_Entries (fun r0 r1 => Post (.tup [.str r0, .int .i64 r1])) (fun t29 t30 t31 o5 => iter (exec C_flat_ParseTable_1 Tryd.f6.ntmps M_flat_FormatTable F 0 (cL (cB (cS (cF (cS (cS (cS (cS (bo Tryd.f6)))))))))) (M_flat_FormatTable 0) F 0 (st_flat_FormatTable_0 t29 t30 t31 o5) (k_flat_FormatTable_0 F Post)) := by kernel_rfl
theorem loop_flat_FormatTable_0 (F : Nat) (K : AEx → ASt UU → Prop) : ∀ (n r : Nat) (t29 : List Ent) (t30 : Int) (t31 : Int) (o5 : ByteArray), iter (exec C_flat_ParseTable_1 Tryd.f6.ntmps M_flat_FormatTable F 0 (cL (cB (cS (cF (cS (cS (cS (cS (bo Tryd.f6)))))))))) (M_flat_FormatTable 0) n r (st_flat_FormatTable_0 t29 t30 t31 o5) K = w_flat_FormatTable_0 F  (fun t29 t30 t31 o5 => K (.exit 0) (st_flat_FormatTable_0 t29 t30 t31 o5)) n t29 t30 t31 o5 := by
  intro n
  induction n with
  | zero => intros; rfl
  | succ n ih =>
    intro r t29 t30 t31 o5
    have e : (fun t29 t30 t31 o5 => iter (exec C_flat_ParseTable_1 Tryd.f6.ntmps M_flat_FormatTable F 0 (cL (cB (cS (cF (cS (cS (cS (cS (bo Tryd.f6)))))))))) (M_flat_FormatTable 0) n (r + 1) (st_flat_FormatTable_0 t29 t30 t31 o5) K) = w_flat_FormatTable_0 F  (fun t29 t30 t31 o5 => K (.exit 0) (st_flat_FormatTable_0 t29 t30 t31 o5)) n := by
      funext t29 t30 t31 o5
      exact ih (r + 1) t29 t30 t31 o5
    rw [step_flat_FormatTable_0, e]
    rfl
theorem nl_flat_FormatTable_0 (F : Nat) (Post : AVal UU → Prop) (t29 : List Ent) (t30 : Int) (t31 : Int) (o5 : ByteArray) : iter (exec C_flat_ParseTable_1 Tryd.f6.ntmps M_flat_FormatTable F 0 (cL (cB (cS (cF (cS (cS (cS (cS (bo Tryd.f6)))))))))) (M_flat_FormatTable 0) F 0 (st_flat_FormatTable_0 t29 t30 t31 o5) (k_flat_FormatTable_0 F Post) = n_flat_FormatTable_0 F (fun r0 r1 => Post (.tup [.str r0, .int .i64 r1])) t29 t30 t31 o5 := by
  rw [loop_flat_FormatTable_0]
  have h0 : (fun t29 t30 t31 o5 => k_flat_FormatTable_0 F Post (.exit 0) (st_flat_FormatTable_0 t29 t30 t31 o5)) = (fun t29 t30 t31 o5 => g_flat_FormatTable_c0_0 (fun r0 r1 => Post (.tup [.str r0, .int .i64 r1])) t29 t30 t31 o5) := by
    funext t29 t30 t31 o5
    rw [cont_flat_FormatTable_0_0]
  rw [h0]
  rfl
theorem exec_flat_FormatTable (F : Nat) (Post : AVal UU → Prop) (a0_Material : ByteArray) (a0_Gauge : Int) (a0_Die : Int) (a0_Entries : List Ent) : exec C_flat_ParseTable_1 Tryd.f6.ntmps M_flat_FormatTable F 0 (bo Tryd.f6) (initSt [.agg [.str a0_Material, .int .i64 a0_Gauge, .int .i64 a0_Die, .sl .ent a0_Entries]]) (AEnds C_flat_ParseTable_1 false Tryd.f6 Post) = w_flat_FormatTable F a0_Material a0_Gauge a0_Die a0_Entries (fun r0 r1 => Post (.tup [.str r0, .int .i64 r1])) := by
  rw [entry_flat_FormatTable]
  have e0 : (fun t29 t30 t31 o5 => iter (exec C_flat_ParseTable_1 Tryd.f6.ntmps M_flat_FormatTable F 0 (cL (cB (cS (cF (cS (cS (cS (cS (bo Tryd.f6)))))))))) (M_flat_FormatTable 0) F 0 (st_flat_FormatTable_0 t29 t30 t31 o5) (k_flat_FormatTable_0 F Post)) = (n_flat_FormatTable_0 F (fun r0 r1 => Post (.tup [.str r0, .int .i64 r1]))) := by
    funext t29 t30 t31 o5
    exact nl_flat_FormatTable_0 F Post t29 t30 t31 o5
  rw [e0]
  rfl
def m_flat_FormatTable : Model UU
  | [.agg [.str a0_Material, .int .i64 a0_Gauge, .int .i64 a0_Die, .sl .ent a0_Entries]] => some ([pre_flat_FormatTable a0_Material a0_Gauge a0_Die a0_Entries], .tup [.str ((sp_flat_FormatTable a0_Material a0_Gauge a0_Die a0_Entries).1), .int .i64 ((sp_flat_FormatTable a0_Material a0_Gauge a0_Die a0_Entries).2)])
  | _ => none
def C_flat_FormatTable : Cfg UU := C_flat_ParseTable_1.add 6 m_flat_FormatTable
theorem s_flat_FormatTable : SumOK C_flat_FormatTable := by
  refine s_flat_ParseTable_1.addD mixed (fn := Tryd.f6) (c := bo Tryd.f6) Tryd.func6 (by kernel_rfl) (by kernel_rfl) ?_
  intro xs cs r h hc
  unfold m_flat_FormatTable at h
  split at h
  · rename_i a0_Material a0_Gauge a0_Die a0_Entries
    cases h
    obtain ⟨F, hF⟩ := ok_flat_FormatTable a0_Material a0_Gauge a0_Die a0_Entries hc
    refine ⟨by kernel_rfl, M_flat_FormatTable, F, false, ⟨?_⟩⟩
    rw [exec_flat_FormatTable]
    refine hF _ ?_
    rfl
  · cases h
end
end Go.Proofs.YtohecfbnmmgimaaDoor

namespace Go.Proofs.YtohecfbnmmgimaaDoor
open Go.Vm Go.RowKit
set_option linter.unusedVariables false
noncomputable section
def k_flat_ParseTable_0 (F : Nat) (Post : AVal UU → Prop) : AEx → ASt UU → Prop := kBlock 0 (kSeq C_flat_FormatTable Tryd.f8.ntmps M_flat_ParseTable F 0 (cS (cS (cS (cS (cS (cS (bo Tryd.f8))))))) (AEnds C_flat_FormatTable true Tryd.f8 Post))
set_option maxRecDepth 100000 in
theorem step_flat_ParseTable_0 (F n r : Nat) (K : AEx → ASt UU → Prop) (t0 : ByteArray) (t22 : Int) (t23 : Int) (c2_0 : ByteArray) (c2_1 : Int) (c2_2 : Int) (c4_0 : ByteArray) (c4_1 : Int) (c4_2 : Int) (c5_0 : Bool) (l106 : List ByteArray) (l107 : List Ent) : iter (exec C_flat_FormatTable Tryd.f8.ntmps M_flat_ParseTable F 0 (cL (cB (cS (cF (cS (cS (cS (cS (cS (bo Tryd.f8))))))))))) (M_flat_ParseTable 0) (n + 1) r (st_flat_ParseTable_0 t0 t22 t23 c2_0 c2_1 c2_2 c4_0 c4_1 c4_2 c5_0 l106 l107) K = g_flat_ParseTable_s0 (fun t0 t22 t23 c2_0 c2_1 c2_2 c4_0 c4_1 c4_2 c5_0 l106 l107 => iter (exec C_flat_FormatTable Tryd.f8.ntmps M_flat_ParseTable F 0 (cL (cB (cS (cF (cS (cS (cS (cS (cS (bo Tryd.f8))))))))))) (M_flat_ParseTable 0) n (r + 1) (st_flat_ParseTable_0 t0 t22 t23 c2_0 c2_1 c2_2 c4_0 c4_1 c4_2 c5_0 l106 l107) K) (fun t0 t22 t23 c2_0 c2_1 c2_2 c4_0 c4_1 c4_2 c5_0 l106 l107 => K (.exit 0) (st_flat_ParseTable_0 t0 t22 t23 c2_0 c2_1 c2_2 c4_0 c4_1 c4_2 c5_0 l106 l107)) t0 t22 t23 c2_0 c2_1 c2_2 c4_0 c4_1 c4_2 c5_0 l106 l107 := by kernel_rfl
set_option maxRecDepth 100000 in
theorem cont_flat_ParseTable_0_0 (F : Nat) (Post : AVal UU → Prop) (t0 : ByteArray) (t22 : Int) (t23 : Int) (c2_0 : ByteArray) (c2_1 : Int) (c2_2 : Int) (c4_0 : ByteArray) (c4_1 : Int) (c4_2 : Int) (c5_0 : Bool) (l106 : List ByteArray) (l107 : List Ent) : k_flat_ParseTable_0 F Post (.exit 0) (st_flat_ParseTable_0 t0 t22 t23 c2_0 c2_1 c2_2 c4_0 c4_1 c4_2 c5_0 l106 l107) = g_flat_ParseTable_c0_0 (fun r0_Material r0_Gauge r0_Die r0_Entries r1 => Post (.tup [.agg [.str r0_Material, .int .i64 r0_Gauge, .int .i64 r0_Die, .new .ent r0_Entries], .int .i64 r1])) t0 t22 t23 c2_0 c2_1 c2_2 c4_0 c4_1 c4_2 c5_0 l106 l107 := by kernel_rfl
set_option maxRecDepth 100000 in
theorem entry_flat_ParseTable (F : Nat) (Post : AVal UU → Prop) (a0 : ByteArray) : exec C_flat_FormatTable Tryd.f8.ntmps M_flat_ParseTable F 0 (bo Tryd.f8) (initSt [.str a0]) (AEnds C_flat_FormatTable true Tryd.f8 Post) = g_flat_ParseTable_e a0 (fun r0_Material r0_Gauge r0_Die r0_Entries r1 => Post (.tup [.agg [.str r0_Material, .int .i64 r0_Gauge, .int .i64 r0_Die, .new .ent r0_Entries], .int .i64 r1])) (fun t0 t22 t23 c2_0 c2_1 c2_2 c4_0 c4_1 c4_2 c5_0 l106 l107 => iter (exec C_flat_FormatTable Tryd.f8.ntmps M_flat_ParseTable F 0 (cL (cB (cS (cF (cS (cS (cS (cS (cS (bo Tryd.f8))))))))))) (M_flat_ParseTable 0) F 0 (st_flat_ParseTable_0 t0 t22 t23 c2_0 c2_1 c2_2 c4_0 c4_1 c4_2 c5_0 l106 l107) (k_flat_ParseTable_0 F Post)) := by kernel_rfl
theorem loop_flat_ParseTable_0 (F : Nat) (K : AEx → ASt UU → Prop) : ∀ (n r : Nat) (t0 : ByteArray) (t22 : Int) (t23 : Int) (c2_0 : ByteArray) (c2_1 : Int) (c2_2 : Int) (c4_0 : ByteArray) (c4_1 : Int) (c4_2 : Int) (c5_0 : Bool) (l106 : List ByteArray) (l107 : List Ent), iter (exec C_flat_FormatTable Tryd.f8.ntmps M_flat_ParseTable F 0 (cL (cB (cS (cF (cS (cS (cS (cS (cS (bo Tryd.f8))))))))))) (M_flat_ParseTable 0) n r (st_flat_ParseTable_0 t0 t22 t23 c2_0 c2_1 c2_2 c4_0 c4_1 c4_2 c5_0 l106 l107) K = w_flat_ParseTable_0 F  (fun t0 t22 t23 c2_0 c2_1 c2_2 c4_0 c4_1 c4_2 c5_0 l106 l107 => K (.exit 0) (st_flat_ParseTable_0 t0 t22 t23 c2_0 c2_1 c2_2 c4_0 c4_1 c4_2 c5_0 l106 l107)) n t0 t22 t23 c2_0 c2_1 c2_2 c4_0 c4_1 c4_2 c5_0 l106 l107 := by
  intro n
  induction n with
  | zero => intros; rfl
  | succ n ih =>
    intro r t0 t22 t23 c2_0 c2_1 c2_2 c4_0 c4_1 c4_2 c5_0 l106 l107
    have e : (fun t0 t22 t23 c2_0 c2_1 c2_2 c4_0 c4_1 c4_2 c5_0 l106 l107 => iter (exec C_flat_FormatTable Tryd.f8.ntmps M_flat_ParseTable F 0 (cL (cB (cS (cF (cS (cS (cS (cS (cS (bo Tryd.f8))))))))))) (M_flat_ParseTable 0) n (r + 1) (st_flat_ParseTable_0 t0 t22 t23 c2_0 c2_1 c2_2 c4_0 c4_1 c4_2 c5_0 l106 l107) K) = w_flat_ParseTable_0 F  (fun t0 t22 t23 c2_0 c2_1 c2_2 c4_0 c4_1 c4_2 c5_0 l106 l107 => K (.exit 0) (st_flat_ParseTable_0 t0 t22 t23 c2_0 c2_1 c2_2 c4_0 c4_1 c4_2 c5_0 l106 l107)) n := by
      funext t0 t22 t23 c2_0 c2_1 c2_2 c4_0 c4_1 c4_2 c5_0 l106 l107
      exact ih (r + 1) t0 t22 t23 c2_0 c2_1 c2_2 c4_0 c4_1 c4_2 c5_0 l106 l107
    rw [step_flat_ParseTable_0, e]
    rfl
theorem nl_flat_ParseTable_0 (F : Nat) (Post : AVal UU → Prop) (t0 : ByteArray) (t22 : Int) (t23 : Int) (c2_0 : ByteArray) (c2_1 : Int) (c2_2 : Int) (c4_0 : ByteArray) (c4_1 : Int) (c4_2 : Int) (c5_0 : Bool) (l106 : List ByteArray) (l107 : List Ent) : iter (exec C_flat_FormatTable Tryd.f8.ntmps M_flat_ParseTable F 0 (cL (cB (cS (cF (cS (cS (cS (cS (cS (bo Tryd.f8))))))))))) (M_flat_ParseTable 0) F 0 (st_flat_ParseTable_0 t0 t22 t23 c2_0 c2_1 c2_2 c4_0 c4_1 c4_2 c5_0 l106 l107) (k_flat_ParseTable_0 F Post) = n_flat_ParseTable_0 F (fun r0_Material r0_Gauge r0_Die r0_Entries r1 => Post (.tup [.agg [.str r0_Material, .int .i64 r0_Gauge, .int .i64 r0_Die, .new .ent r0_Entries], .int .i64 r1])) t0 t22 t23 c2_0 c2_1 c2_2 c4_0 c4_1 c4_2 c5_0 l106 l107 := by
  rw [loop_flat_ParseTable_0]
  have h0 : (fun t0 t22 t23 c2_0 c2_1 c2_2 c4_0 c4_1 c4_2 c5_0 l106 l107 => k_flat_ParseTable_0 F Post (.exit 0) (st_flat_ParseTable_0 t0 t22 t23 c2_0 c2_1 c2_2 c4_0 c4_1 c4_2 c5_0 l106 l107)) = (fun t0 t22 t23 c2_0 c2_1 c2_2 c4_0 c4_1 c4_2 c5_0 l106 l107 => g_flat_ParseTable_c0_0 (fun r0_Material r0_Gauge r0_Die r0_Entries r1 => Post (.tup [.agg [.str r0_Material, .int .i64 r0_Gauge, .int .i64 r0_Die, .new .ent r0_Entries], .int .i64 r1])) t0 t22 t23 c2_0 c2_1 c2_2 c4_0 c4_1 c4_2 c5_0 l106 l107) := by
    funext t0 t22 t23 c2_0 c2_1 c2_2 c4_0 c4_1 c4_2 c5_0 l106 l107
    rw [cont_flat_ParseTable_0_0]
  rw [h0]
  rfl
theorem exec_flat_ParseTable (F : Nat) (Post : AVal UU → Prop) (a0 : ByteArray) : exec C_flat_FormatTable Tryd.f8.ntmps M_flat_ParseTable F 0 (bo Tryd.f8) (initSt [.str a0]) (AEnds C_flat_FormatTable true Tryd.f8 Post) = w_flat_ParseTable F a0 (fun r0_Material r0_Gauge r0_Die r0_Entries r1 => Post (.tup [.agg [.str r0_Material, .int .i64 r0_Gauge, .int .i64 r0_Die, .new .ent r0_Entries], .int .i64 r1])) := by
  rw [entry_flat_ParseTable]
  have e0 : (fun t0 t22 t23 c2_0 c2_1 c2_2 c4_0 c4_1 c4_2 c5_0 l106 l107 => iter (exec C_flat_FormatTable Tryd.f8.ntmps M_flat_ParseTable F 0 (cL (cB (cS (cF (cS (cS (cS (cS (cS (bo Tryd.f8))))))))))) (M_flat_ParseTable 0) F 0 (st_flat_ParseTable_0 t0 t22 t23 c2_0 c2_1 c2_2 c4_0 c4_1 c4_2 c5_0 l106 l107) (k_flat_ParseTable_0 F Post)) = (n_flat_ParseTable_0 F (fun r0_Material r0_Gauge r0_Die r0_Entries r1 => Post (.tup [.agg [.str r0_Material, .int .i64 r0_Gauge, .int .i64 r0_Die, .new .ent r0_Entries], .int .i64 r1]))) := by
    funext t0 t22 t23 c2_0 c2_1 c2_2 c4_0 c4_1 c4_2 c5_0 l106 l107
    exact nl_flat_ParseTable_0 F Post t0 t22 t23 c2_0 c2_1 c2_2 c4_0 c4_1 c4_2 c5_0 l106 l107
  rw [e0]
  rfl
def m_flat_ParseTable : Model UU
  | [.str a0] => some ([pre_flat_ParseTable a0], .tup [.agg [.str ((sp_flat_ParseTable a0).1), .int .i64 ((sp_flat_ParseTable a0).2.1), .int .i64 ((sp_flat_ParseTable a0).2.2.1), .new .ent ((sp_flat_ParseTable a0).2.2.2.1)], .int .i64 ((sp_flat_ParseTable a0).2.2.2.2)])
  | _ => none
def C_flat_ParseTable : Cfg UU := C_flat_FormatTable.add 8 m_flat_ParseTable
theorem s_flat_ParseTable : SumOK C_flat_ParseTable := by
  refine s_flat_FormatTable.addD mixed (fn := Tryd.f8) (c := bo Tryd.f8) Tryd.func8 (by kernel_rfl) (by kernel_rfl) ?_
  intro xs cs r h hc
  unfold m_flat_ParseTable at h
  split at h
  · rename_i a0
    cases h
    obtain ⟨F, hF⟩ := ok_flat_ParseTable a0 hc
    refine ⟨by kernel_rfl, M_flat_ParseTable, F, true, ⟨?_⟩⟩
    rw [exec_flat_ParseTable]
    refine hF _ ?_
    rfl
  · cases h
end
end Go.Proofs.YtohecfbnmmgimaaDoor

namespace Go.Proofs.YtohecfbnmmgimaaDoor
open Go.Vm Go.RowKit
set_option linter.unusedVariables false
noncomputable section
def m_ref02_Digits (k : Nat) : Model UU
  | [.int .i64 a0] => some ([pre_ref02_Digits k a0], .str (sp_ref02_Digits a0))
  | _ => none
def CR_ref02_Digits (k : Nat) : Cfg UU := C_flat_ParseTable.add 37 (m_ref02_Digits k)
set_option maxRecDepth 100000 in
theorem entry_ref02_Digits (F : Nat) (Post : AVal UU → Prop) (k : Nat) (a0 : Int) : exec (CR_ref02_Digits k) Tryd.f37.ntmps M_ref02_Digits F 0 (bo Tryd.f37) (initSt [.int .i64 a0]) (AEnds (CR_ref02_Digits k) false Tryd.f37 Post) = g_ref02_Digits_e k a0 (fun r0 => Post (.str r0)) := by kernel_rfl
theorem exec_ref02_Digits (F : Nat) (Post : AVal UU → Prop) (k : Nat) (a0 : Int) : exec (CR_ref02_Digits k) Tryd.f37.ntmps M_ref02_Digits F 0 (bo Tryd.f37) (initSt [.int .i64 a0]) (AEnds (CR_ref02_Digits k) false Tryd.f37 Post) = w_ref02_Digits F k a0 (fun r0 => Post (.str r0)) := by
  rw [entry_ref02_Digits]
  rfl
set_option maxRecDepth 100000 in
theorem sR_ref02_Digits : ∀ k, SumOK (CR_ref02_Digits k) := by
  refine s_flat_ParseTable.addRec mixed (fn := Tryd.f37) (c := bo Tryd.f37) Tryd.func37 (by kernel_rfl) (by kernel_rfl) (fun xs cs r h hc => ?_) (fun k xs cs r h hc => ?_)
  · unfold m_ref02_Digits at h
    split at h
    · cases h
      exact pre0_ref02_Digits hc
    · cases h
  · unfold m_ref02_Digits at h
    split at h
    · rename_i a0
      cases h
      obtain ⟨F, hF⟩ := ok_ref02_Digits k a0 hc
      refine ⟨by kernel_rfl, M_ref02_Digits, F, false, ?_⟩
      have e := exec_ref02_Digits F (fun r => r = .str (sp_ref02_Digits a0)) k a0
      refine cast e.symm ?_
      refine hF _ ?_
      rfl
    · cases h
def C_ref02_Digits : Cfg UU := CR_ref02_Digits 19
theorem s_ref02_Digits : SumOK C_ref02_Digits := sR_ref02_Digits 19
end
end Go.Proofs.YtohecfbnmmgimaaDoor

namespace Go.Proofs.YtohecfbnmmgimaaDoor
open Go.Vm Go.RowKit
set_option linter.unusedVariables false
noncomputable section
def k_ref03_write_0 (F : Nat) (Post : AVal UU → Prop) : AEx → ASt UU → Prop := kBlock 0 (kSeq C_ref02_Digits Tryd.f18.ntmps M_ref03_write F 0 (cS (cS (cS (bo Tryd.f18)))) (AEnds C_ref02_Digits false Tryd.f18 Post))
set_option maxRecDepth 100000 in
theorem step_ref03_write_0 (F n r : Nat) (K : AEx → ASt UU → Prop) (t3 : ByteArray) (t4 : Int) (c1_0 : ByteArray) (c1_1 : Int) (c1_2 : Int) (c1_3 : List Ent) : iter (exec C_ref02_Digits Tryd.f18.ntmps M_ref03_write F 0 (cL (cB (cS (cF (cS (cS (bo Tryd.f18)))))))) (M_ref03_write 0) (n + 1) r (st_ref03_write_0 t3 t4 c1_0 c1_1 c1_2 c1_3) K = g_ref03_write_s0 (fun t3 t4 c1_0 c1_1 c1_2 c1_3 => iter (exec C_ref02_Digits Tryd.f18.ntmps M_ref03_write F 0 (cL (cB (cS (cF (cS (cS (bo Tryd.f18)))))))) (M_ref03_write 0) n (r + 1) (st_ref03_write_0 t3 t4 c1_0 c1_1 c1_2 c1_3) K) (fun t3 t4 c1_0 c1_1 c1_2 c1_3 => K (.exit 0) (st_ref03_write_0 t3 t4 c1_0 c1_1 c1_2 c1_3)) t3 t4 c1_0 c1_1 c1_2 c1_3 := by kernel_rfl
set_option maxRecDepth 100000 in
theorem cont_ref03_write_0_0 (F : Nat) (Post : AVal UU → Prop) (t3 : ByteArray) (t4 : Int) (c1_0 : ByteArray) (c1_1 : Int) (c1_2 : Int) (c1_3 : List Ent) : k_ref03_write_0 F Post (.exit 0) (st_ref03_write_0 t3 t4 c1_0 c1_1 c1_2 c1_3) = g_ref03_write_c0_0 (fun r0 => Post (.str r0)) t3 t4 c1_0 c1_1 c1_2 c1_3 := by kernel_rfl
set_option maxRecDepth 100000 in
theorem entry_ref03_write (F : Nat) (Post : AVal UU → Prop) (a0_Material : ByteArray) (a0_Gauge : Int) (a0_Die : Int) (a0_Entries : List Ent) : exec C_ref02_Digits Tryd.f18.ntmps M_ref03_write F 0 (bo Tryd.f18) (initSt [.agg [.str a0_Material, .int .i64 a0_Gauge, .int .i64 a0_Die, .sl .ent a0_Entries]]) (AEnds C_ref02_Digits false Tryd.f18 Post) = g_ref03_write_e a0_Material a0_Gauge a0_Die a0_Entries (fun r0 => Post (.str r0)) (fun t3 t4 c1_0 c1_1 c1_2 c1_3 => iter (exec C_ref02_Digits Tryd.f18.ntmps M_ref03_write F 0 (cL (cB (cS (cF (cS (cS (bo Tryd.f18)))))))) (M_ref03_write 0) F 0 (st_ref03_write_0 t3 t4 c1_0 c1_1 c1_2 c1_3) (k_ref03_write_0 F Post)) := by kernel_rfl
theorem loop_ref03_write_0 (F : Nat) (K : AEx → ASt UU → Prop) : ∀ (n r : Nat) (t3 : ByteArray) (t4 : Int) (c1_0 : ByteArray) (c1_1 : Int) (c1_2 : Int) (c1_3 : List Ent), iter (exec C_ref02_Digits Tryd.f18.ntmps M_ref03_write F 0 (cL (cB (cS (cF (cS (cS (bo Tryd.f18)))))))) (M_ref03_write 0) n r (st_ref03_write_0 t3 t4 c1_0 c1_1 c1_2 c1_3) K = w_ref03_write_0 F  (fun t3 t4 c1_0 c1_1 c1_2 c1_3 => K (.exit 0) (st_ref03_write_0 t3 t4 c1_0 c1_1 c1_2 c1_3)) n t3 t4 c1_0 c1_1 c1_2 c1_3 := by
  intro n
  induction n with
  | zero => intros; rfl
  | succ n ih =>
    intro r t3 t4 c1_0 c1_1 c1_2 c1_3
    have e : (fun t3 t4 c1_0 c1_1 c1_2 c1_3 => iter (exec C_ref02_Digits Tryd.f18.ntmps M_ref03_write F 0 (cL (cB (cS (cF (cS (cS (bo Tryd.f18)))))))) (M_ref03_write 0) n (r + 1) (st_ref03_write_0 t3 t4 c1_0 c1_1 c1_2 c1_3) K) = w_ref03_write_0 F  (fun t3 t4 c1_0 c1_1 c1_2 c1_3 => K (.exit 0) (st_ref03_write_0 t3 t4 c1_0 c1_1 c1_2 c1_3)) n := by
      funext t3 t4 c1_0 c1_1 c1_2 c1_3
      exact ih (r + 1) t3 t4 c1_0 c1_1 c1_2 c1_3
    rw [step_ref03_write_0, e]
    rfl
theorem nl_ref03_write_0 (F : Nat) (Post : AVal UU → Prop) (t3 : ByteArray) (t4 : Int) (c1_0 : ByteArray) (c1_1 : Int) (c1_2 : Int) (c1_3 : List Ent) : iter (exec C_ref02_Digits Tryd.f18.ntmps M_ref03_write F 0 (cL (cB (cS (cF (cS (cS (bo Tryd.f18)))))))) (M_ref03_write 0) F 0 (st_ref03_write_0 t3 t4 c1_0 c1_1 c1_2 c1_3) (k_ref03_write_0 F Post) = n_ref03_write_0 F (fun r0 => Post (.str r0)) t3 t4 c1_0 c1_1 c1_2 c1_3 := by
  rw [loop_ref03_write_0]
  have h0 : (fun t3 t4 c1_0 c1_1 c1_2 c1_3 => k_ref03_write_0 F Post (.exit 0) (st_ref03_write_0 t3 t4 c1_0 c1_1 c1_2 c1_3)) = (fun t3 t4 c1_0 c1_1 c1_2 c1_3 => g_ref03_write_c0_0 (fun r0 => Post (.str r0)) t3 t4 c1_0 c1_1 c1_2 c1_3) := by
    funext t3 t4 c1_0 c1_1 c1_2 c1_3
    rw [cont_ref03_write_0_0]
  rw [h0]
  rfl
theorem exec_ref03_write (F : Nat) (Post : AVal UU → Prop) (a0_Material : ByteArray) (a0_Gauge : Int) (a0_Die : Int) (a0_Entries : List Ent) : exec C_ref02_Digits Tryd.f18.ntmps M_ref03_write F 0 (bo Tryd.f18) (initSt [.agg [.str a0_Material, .int .i64 a0_Gauge, .int .i64 a0_Die, .sl .ent a0_Entries]]) (AEnds C_ref02_Digits false Tryd.f18 Post) = w_ref03_write F a0_Material a0_Gauge a0_Die a0_Entries (fun r0 => Post (.str r0)) := by
  rw [entry_ref03_write]
  have e0 : (fun t3 t4 c1_0 c1_1 c1_2 c1_3 => iter (exec C_ref02_Digits Tryd.f18.ntmps M_ref03_write F 0 (cL (cB (cS (cF (cS (cS (bo Tryd.f18)))))))) (M_ref03_write 0) F 0 (st_ref03_write_0 t3 t4 c1_0 c1_1 c1_2 c1_3) (k_ref03_write_0 F Post)) = (n_ref03_write_0 F (fun r0 => Post (.str r0))) := by
    funext t3 t4 c1_0 c1_1 c1_2 c1_3
    exact nl_ref03_write_0 F Post t3 t4 c1_0 c1_1 c1_2 c1_3
  rw [e0]
  rfl
def m_ref03_write : Model UU
  | [.agg [.str a0_Material, .int .i64 a0_Gauge, .int .i64 a0_Die, .sl .ent a0_Entries]] => some ([pre_ref03_write a0_Material a0_Gauge a0_Die a0_Entries], .str (sp_ref03_write a0_Material a0_Gauge a0_Die a0_Entries))
  | _ => none
def C_ref03_write : Cfg UU := C_ref02_Digits.add 18 m_ref03_write
theorem s_ref03_write : SumOK C_ref03_write := by
  refine s_ref02_Digits.addD mixed (fn := Tryd.f18) (c := bo Tryd.f18) Tryd.func18 (by kernel_rfl) (by kernel_rfl) ?_
  intro xs cs r h hc
  unfold m_ref03_write at h
  split at h
  · rename_i a0_Material a0_Gauge a0_Die a0_Entries
    cases h
    obtain ⟨F, hF⟩ := ok_ref03_write a0_Material a0_Gauge a0_Die a0_Entries hc
    refine ⟨by kernel_rfl, M_ref03_write, F, false, ⟨?_⟩⟩
    rw [exec_ref03_write]
    refine hF _ ?_
    rfl
  · cases h
end
end Go.Proofs.YtohecfbnmmgimaaDoor

namespace Go.Proofs.YtohecfbnmmgimaaDoor
open Go.Vm Go.RowKit
set_option linter.unusedVariables false
noncomputable section
set_option maxRecDepth 100000 in
theorem entry_ref03_FormatTable (F : Nat) (Post : AVal UU → Prop) (a0_Material : ByteArray) (a0_Gauge : Int) (a0_Die : Int) (a0_Entries : List Ent) : exec C_ref03_write Tryd.f7.ntmps M_ref03_FormatTable F 0 (bo Tryd.f7) (initSt [.agg [.str a0_Material, .int .i64 a0_Gauge, .int .i64 a0_Die, .sl .ent a0_Entries]]) (AEnds C_ref03_write false Tryd.f7 Post) = g_ref03_FormatTable_e a0_Material a0_Gauge a0_Die a0_Entries (fun r0 r1 => Post (.tup [.str r0, .int .i64 r1])) := by kernel_rfl
theorem exec_ref03_FormatTable (F : Nat) (Post : AVal UU → Prop) (a0_Material : ByteArray) (a0_Gauge : Int) (a0_Die : Int) (a0_Entries : List Ent) : exec C_ref03_write Tryd.f7.ntmps M_ref03_FormatTable F 0 (bo Tryd.f7) (initSt [.agg [.str a0_Material, .int .i64 a0_Gauge, .int .i64 a0_Die, .sl .ent a0_Entries]]) (AEnds C_ref03_write false Tryd.f7 Post) = w_ref03_FormatTable F a0_Material a0_Gauge a0_Die a0_Entries (fun r0 r1 => Post (.tup [.str r0, .int .i64 r1])) := by
  rw [entry_ref03_FormatTable]
  rfl
def m_ref03_FormatTable : Model UU
  | [.agg [.str a0_Material, .int .i64 a0_Gauge, .int .i64 a0_Die, .sl .ent a0_Entries]] => some ([pre_ref03_FormatTable a0_Material a0_Gauge a0_Die a0_Entries], .tup [.str ((sp_ref03_FormatTable a0_Material a0_Gauge a0_Die a0_Entries).1), .int .i64 ((sp_ref03_FormatTable a0_Material a0_Gauge a0_Die a0_Entries).2)])
  | _ => none
def C_ref03_FormatTable : Cfg UU := C_ref03_write.add 7 m_ref03_FormatTable
theorem s_ref03_FormatTable : SumOK C_ref03_FormatTable := by
  refine s_ref03_write.addD mixed (fn := Tryd.f7) (c := bo Tryd.f7) Tryd.func7 (by kernel_rfl) (by kernel_rfl) ?_
  intro xs cs r h hc
  unfold m_ref03_FormatTable at h
  split at h
  · rename_i a0_Material a0_Gauge a0_Die a0_Entries
    cases h
    obtain ⟨F, hF⟩ := ok_ref03_FormatTable a0_Material a0_Gauge a0_Die a0_Entries hc
    refine ⟨by kernel_rfl, M_ref03_FormatTable, F, false, ⟨?_⟩⟩
    rw [exec_ref03_FormatTable]
    refine hF _ ?_
    rfl
  · cases h
end
end Go.Proofs.YtohecfbnmmgimaaDoor

namespace Go.Proofs.YtohecfbnmmgimaaDoor
open Go.Vm Go.RowKit
set_option linter.unusedVariables false
noncomputable section
def k_ref02_Words_0 (F : Nat) (Post : AVal UU → Prop) : AEx → ASt UU → Prop := kBlock 0 (kSeq C_ref03_FormatTable Tryd.f23.ntmps M_ref02_Words F 0 (cS (cS (cS (cS (bo Tryd.f23))))) (AEnds C_ref03_FormatTable false Tryd.f23 Post))
set_option maxRecDepth 100000 in
theorem step_ref02_Words_0 (F n r : Nat) (K : AEx → ASt UU → Prop) (t0 : ByteArray) (t1 : Int) (t6 : ByteArray) (t7 : Int) (l34 : List ByteArray) : iter (exec C_ref03_FormatTable Tryd.f23.ntmps M_ref02_Words F 0 (cL (cB (cS (cF (cS (cS (cS (bo Tryd.f23))))))))) (M_ref02_Words 0) (n + 1) r (st_ref02_Words_0 t0 t1 t6 t7 l34) K = g_ref02_Words_s0 (fun t0 t1 t6 t7 l34 => iter (exec C_ref03_FormatTable Tryd.f23.ntmps M_ref02_Words F 0 (cL (cB (cS (cF (cS (cS (cS (bo Tryd.f23))))))))) (M_ref02_Words 0) n (r + 1) (st_ref02_Words_0 t0 t1 t6 t7 l34) K) (fun t0 t1 t6 t7 l34 => K (.exit 0) (st_ref02_Words_0 t0 t1 t6 t7 l34)) t0 t1 t6 t7 l34 := by kernel_rfl
set_option maxRecDepth 100000 in
theorem cont_ref02_Words_0_0 (F : Nat) (Post : AVal UU → Prop) (t0 : ByteArray) (t1 : Int) (t6 : ByteArray) (t7 : Int) (l34 : List ByteArray) : k_ref02_Words_0 F Post (.exit 0) (st_ref02_Words_0 t0 t1 t6 t7 l34) = g_ref02_Words_c0_0 (fun r0 => Post (.sl .str r0)) t0 t1 t6 t7 l34 := by kernel_rfl
set_option maxRecDepth 100000 in
theorem entry_ref02_Words (F : Nat) (Post : AVal UU → Prop) (a0 : ByteArray) (a1 : Int) : exec C_ref03_FormatTable Tryd.f23.ntmps M_ref02_Words F 0 (bo Tryd.f23) (initSt [.str a0, .int .u8 a1]) (AEnds C_ref03_FormatTable false Tryd.f23 Post) = g_ref02_Words_e a0 a1 (fun r0 => Post (.sl .str r0)) (fun t0 t1 t6 t7 l34 => iter (exec C_ref03_FormatTable Tryd.f23.ntmps M_ref02_Words F 0 (cL (cB (cS (cF (cS (cS (cS (bo Tryd.f23))))))))) (M_ref02_Words 0) F 0 (st_ref02_Words_0 t0 t1 t6 t7 l34) (k_ref02_Words_0 F Post)) := by kernel_rfl
theorem loop_ref02_Words_0 (F : Nat) (K : AEx → ASt UU → Prop) : ∀ (n r : Nat) (t0 : ByteArray) (t1 : Int) (t6 : ByteArray) (t7 : Int) (l34 : List ByteArray), iter (exec C_ref03_FormatTable Tryd.f23.ntmps M_ref02_Words F 0 (cL (cB (cS (cF (cS (cS (cS (bo Tryd.f23))))))))) (M_ref02_Words 0) n r (st_ref02_Words_0 t0 t1 t6 t7 l34) K = w_ref02_Words_0 F  (fun t0 t1 t6 t7 l34 => K (.exit 0) (st_ref02_Words_0 t0 t1 t6 t7 l34)) n t0 t1 t6 t7 l34 := by
  intro n
  induction n with
  | zero => intros; rfl
  | succ n ih =>
    intro r t0 t1 t6 t7 l34
    have e : (fun t0 t1 t6 t7 l34 => iter (exec C_ref03_FormatTable Tryd.f23.ntmps M_ref02_Words F 0 (cL (cB (cS (cF (cS (cS (cS (bo Tryd.f23))))))))) (M_ref02_Words 0) n (r + 1) (st_ref02_Words_0 t0 t1 t6 t7 l34) K) = w_ref02_Words_0 F  (fun t0 t1 t6 t7 l34 => K (.exit 0) (st_ref02_Words_0 t0 t1 t6 t7 l34)) n := by
      funext t0 t1 t6 t7 l34
      exact ih (r + 1) t0 t1 t6 t7 l34
    rw [step_ref02_Words_0, e]
    rfl
theorem nl_ref02_Words_0 (F : Nat) (Post : AVal UU → Prop) (t0 : ByteArray) (t1 : Int) (t6 : ByteArray) (t7 : Int) (l34 : List ByteArray) : iter (exec C_ref03_FormatTable Tryd.f23.ntmps M_ref02_Words F 0 (cL (cB (cS (cF (cS (cS (cS (bo Tryd.f23))))))))) (M_ref02_Words 0) F 0 (st_ref02_Words_0 t0 t1 t6 t7 l34) (k_ref02_Words_0 F Post) = n_ref02_Words_0 F (fun r0 => Post (.sl .str r0)) t0 t1 t6 t7 l34 := by
  rw [loop_ref02_Words_0]
  have h0 : (fun t0 t1 t6 t7 l34 => k_ref02_Words_0 F Post (.exit 0) (st_ref02_Words_0 t0 t1 t6 t7 l34)) = (fun t0 t1 t6 t7 l34 => g_ref02_Words_c0_0 (fun r0 => Post (.sl .str r0)) t0 t1 t6 t7 l34) := by
    funext t0 t1 t6 t7 l34
    rw [cont_ref02_Words_0_0]
  rw [h0]
  rfl
theorem exec_ref02_Words (F : Nat) (Post : AVal UU → Prop) (a0 : ByteArray) (a1 : Int) : exec C_ref03_FormatTable Tryd.f23.ntmps M_ref02_Words F 0 (bo Tryd.f23) (initSt [.str a0, .int .u8 a1]) (AEnds C_ref03_FormatTable false Tryd.f23 Post) = w_ref02_Words F a0 a1 (fun r0 => Post (.sl .str r0)) := by
  rw [entry_ref02_Words]
  have e0 : (fun t0 t1 t6 t7 l34 => iter (exec C_ref03_FormatTable Tryd.f23.ntmps M_ref02_Words F 0 (cL (cB (cS (cF (cS (cS (cS (bo Tryd.f23))))))))) (M_ref02_Words 0) F 0 (st_ref02_Words_0 t0 t1 t6 t7 l34) (k_ref02_Words_0 F Post)) = (n_ref02_Words_0 F (fun r0 => Post (.sl .str r0))) := by
    funext t0 t1 t6 t7 l34
    exact nl_ref02_Words_0 F Post t0 t1 t6 t7 l34
  rw [e0]
  rfl
def m_ref02_Words : Model UU
  | [.str a0, .int .u8 a1] => some ([pre_ref02_Words a0 a1], .sl .str (sp_ref02_Words a0 a1))
  | _ => none
def C_ref02_Words : Cfg UU := C_ref03_FormatTable.add 23 m_ref02_Words
theorem s_ref02_Words : SumOK C_ref02_Words := by
  refine s_ref03_FormatTable.addD mixed (fn := Tryd.f23) (c := bo Tryd.f23) Tryd.func23 (by kernel_rfl) (by kernel_rfl) ?_
  intro xs cs r h hc
  unfold m_ref02_Words at h
  split at h
  · rename_i a0 a1
    cases h
    obtain ⟨F, hF⟩ := ok_ref02_Words a0 a1 hc
    refine ⟨by kernel_rfl, M_ref02_Words, F, false, ⟨?_⟩⟩
    rw [exec_ref02_Words]
    refine hF _ ?_
    rfl
  · cases h
end
end Go.Proofs.YtohecfbnmmgimaaDoor

namespace Go.Proofs.YtohecfbnmmgimaaDoor
open Go.Vm Go.RowKit
set_option linter.unusedVariables false
noncomputable section
def m_ref02_Number (k : Nat) : Model UU
  | [.str a0] => some ([pre_ref02_Number k a0], .int .i64 (sp_ref02_Number a0))
  | _ => none
def CR_ref02_Number (k : Nat) : Cfg UU := C_ref02_Words.add 24 (m_ref02_Number k)
def k_ref02_Number_0 (k : Nat) (F : Nat) (Post : AVal UU → Prop) : AEx → ASt UU → Prop := kBlock 0 (kSeq (CR_ref02_Number k) Tryd.f24.ntmps M_ref02_Number F 0 (cS (cS (cS (cS (bo Tryd.f24))))) (AEnds (CR_ref02_Number k) false Tryd.f24 Post))
set_option maxRecDepth 100000 in
theorem step_ref02_Number_0 (k : Nat) (F n r : Nat) (K : AEx → ASt UU → Prop) (t0 : ByteArray) (t2 : Int) (t3 : Int) (t4 : Int) : iter (exec (CR_ref02_Number k) Tryd.f24.ntmps M_ref02_Number F 0 (cL (cB (cS (cF (cS (cS (cS (bo Tryd.f24))))))))) (M_ref02_Number 0) (n + 1) r (st_ref02_Number_0 t0 t2 t3 t4) K = g_ref02_Number_s0 (fun t0 t2 t3 t4 => iter (exec (CR_ref02_Number k) Tryd.f24.ntmps M_ref02_Number F 0 (cL (cB (cS (cF (cS (cS (cS (bo Tryd.f24))))))))) (M_ref02_Number 0) n (r + 1) (st_ref02_Number_0 t0 t2 t3 t4) K) (fun t0 t2 t3 t4 => K .ret (st_ref02_Number_0 t0 t2 t3 t4)) (fun t0 t2 t3 t4 => K (.exit 0) (st_ref02_Number_0 t0 t2 t3 t4)) t0 t2 t3 t4 := by kernel_rfl
set_option maxRecDepth 100000 in
theorem cont_ref02_Number_0_0 (k : Nat) (F : Nat) (Post : AVal UU → Prop) (t0 : ByteArray) (t2 : Int) (t3 : Int) (t4 : Int) : k_ref02_Number_0 k F Post .ret (st_ref02_Number_0 t0 t2 t3 t4) = g_ref02_Number_c0_0 (fun r0 => Post (.int .i64 r0)) t0 t2 t3 t4 := by kernel_rfl
set_option maxRecDepth 100000 in
theorem cont_ref02_Number_0_1 (k : Nat) (F : Nat) (Post : AVal UU → Prop) (t0 : ByteArray) (t2 : Int) (t3 : Int) (t4 : Int) : k_ref02_Number_0 k F Post (.exit 0) (st_ref02_Number_0 t0 t2 t3 t4) = g_ref02_Number_c0_1 (fun r0 => Post (.int .i64 r0)) t0 t2 t3 t4 := by kernel_rfl
set_option maxRecDepth 100000 in
theorem entry_ref02_Number (F : Nat) (Post : AVal UU → Prop) (k : Nat) (a0 : ByteArray) : exec (CR_ref02_Number k) Tryd.f24.ntmps M_ref02_Number F 0 (bo Tryd.f24) (initSt [.str a0]) (AEnds (CR_ref02_Number k) false Tryd.f24 Post) = g_ref02_Number_e k a0 (fun r0 => Post (.int .i64 r0)) (fun t0 t2 t3 t4 => iter (exec (CR_ref02_Number k) Tryd.f24.ntmps M_ref02_Number F 0 (cL (cB (cS (cF (cS (cS (cS (bo Tryd.f24))))))))) (M_ref02_Number 0) F 0 (st_ref02_Number_0 t0 t2 t3 t4) (k_ref02_Number_0 k F Post)) := by kernel_rfl
theorem loop_ref02_Number_0 (k : Nat) (F : Nat) (K : AEx → ASt UU → Prop) : ∀ (n r : Nat) (t0 : ByteArray) (t2 : Int) (t3 : Int) (t4 : Int), iter (exec (CR_ref02_Number k) Tryd.f24.ntmps M_ref02_Number F 0 (cL (cB (cS (cF (cS (cS (cS (bo Tryd.f24))))))))) (M_ref02_Number 0) n r (st_ref02_Number_0 t0 t2 t3 t4) K = w_ref02_Number_0 F  (fun t0 t2 t3 t4 => K .ret (st_ref02_Number_0 t0 t2 t3 t4)) (fun t0 t2 t3 t4 => K (.exit 0) (st_ref02_Number_0 t0 t2 t3 t4)) n t0 t2 t3 t4 := by
  intro n
  induction n with
  | zero => intros; rfl
  | succ n ih =>
    intro r t0 t2 t3 t4
    have e : (fun t0 t2 t3 t4 => iter (exec (CR_ref02_Number k) Tryd.f24.ntmps M_ref02_Number F 0 (cL (cB (cS (cF (cS (cS (cS (bo Tryd.f24))))))))) (M_ref02_Number 0) n (r + 1) (st_ref02_Number_0 t0 t2 t3 t4) K) = w_ref02_Number_0 F  (fun t0 t2 t3 t4 => K .ret (st_ref02_Number_0 t0 t2 t3 t4)) (fun t0 t2 t3 t4 => K (.exit 0) (st_ref02_Number_0 t0 t2 t3 t4)) n := by
      funext t0 t2 t3 t4
      exact ih (r + 1) t0 t2 t3 t4
    rw [step_ref02_Number_0, e]
    rfl
theorem nl_ref02_Number_0 (k : Nat) (F : Nat) (Post : AVal UU → Prop) (t0 : ByteArray) (t2 : Int) (t3 : Int) (t4 : Int) : iter (exec (CR_ref02_Number k) Tryd.f24.ntmps M_ref02_Number F 0 (cL (cB (cS (cF (cS (cS (cS (bo Tryd.f24))))))))) (M_ref02_Number 0) F 0 (st_ref02_Number_0 t0 t2 t3 t4) (k_ref02_Number_0 k F Post) = n_ref02_Number_0 F (fun r0 => Post (.int .i64 r0)) t0 t2 t3 t4 := by
  rw [loop_ref02_Number_0]
  have h0 : (fun t0 t2 t3 t4 => k_ref02_Number_0 k F Post .ret (st_ref02_Number_0 t0 t2 t3 t4)) = (fun t0 t2 t3 t4 => g_ref02_Number_c0_0 (fun r0 => Post (.int .i64 r0)) t0 t2 t3 t4) := by
    funext t0 t2 t3 t4
    rw [cont_ref02_Number_0_0]
  have h1 : (fun t0 t2 t3 t4 => k_ref02_Number_0 k F Post (.exit 0) (st_ref02_Number_0 t0 t2 t3 t4)) = (fun t0 t2 t3 t4 => g_ref02_Number_c0_1 (fun r0 => Post (.int .i64 r0)) t0 t2 t3 t4) := by
    funext t0 t2 t3 t4
    rw [cont_ref02_Number_0_1]
  rw [h0, h1]
  rfl
theorem exec_ref02_Number (F : Nat) (Post : AVal UU → Prop) (k : Nat) (a0 : ByteArray) : exec (CR_ref02_Number k) Tryd.f24.ntmps M_ref02_Number F 0 (bo Tryd.f24) (initSt [.str a0]) (AEnds (CR_ref02_Number k) false Tryd.f24 Post) = w_ref02_Number F k a0 (fun r0 => Post (.int .i64 r0)) := by
  rw [entry_ref02_Number]
  have e0 : (fun t0 t2 t3 t4 => iter (exec (CR_ref02_Number k) Tryd.f24.ntmps M_ref02_Number F 0 (cL (cB (cS (cF (cS (cS (cS (bo Tryd.f24))))))))) (M_ref02_Number 0) F 0 (st_ref02_Number_0 t0 t2 t3 t4) (k_ref02_Number_0 k F Post)) = (n_ref02_Number_0 F (fun r0 => Post (.int .i64 r0))) := by
    funext t0 t2 t3 t4
    exact nl_ref02_Number_0 k F Post t0 t2 t3 t4
  rw [e0]
  rfl
set_option maxRecDepth 100000 in
theorem sR_ref02_Number : ∀ k, SumOK (CR_ref02_Number k) := by
  refine s_ref02_Words.addRec mixed (fn := Tryd.f24) (c := bo Tryd.f24) Tryd.func24 (by kernel_rfl) (by kernel_rfl) (fun xs cs r h hc => ?_) (fun k xs cs r h hc => ?_)
  · unfold m_ref02_Number at h
    split at h
    · cases h
      exact pre0_ref02_Number hc
    · cases h
  · unfold m_ref02_Number at h
    split at h
    · rename_i a0
      cases h
      obtain ⟨F, hF⟩ := ok_ref02_Number k a0 hc
      refine ⟨by kernel_rfl, M_ref02_Number, F, false, ?_⟩
      have e := exec_ref02_Number F (fun r => r = .int .i64 (sp_ref02_Number a0)) k a0
      refine cast e.symm ?_
      refine hF _ ?_
      rfl
    · cases h
def C_ref02_Number : Cfg UU := CR_ref02_Number 10001
theorem s_ref02_Number : SumOK C_ref02_Number := sR_ref02_Number 10001
end
end Go.Proofs.YtohecfbnmmgimaaDoor

namespace Go.Proofs.YtohecfbnmmgimaaDoor
open Go.Vm Go.RowKit
set_option linter.unusedVariables false
noncomputable section
def k_ref03_ParseTable_0 (F : Nat) (Post : AVal UU → Prop) : AEx → ASt UU → Prop := kBlock 0 (kSeq C_ref02_Number Tryd.f9.ntmps M_ref03_ParseTable F 0 (cS (cS (cS (cS (cS (bo Tryd.f9)))))) (AEnds C_ref02_Number true Tryd.f9 Post))
set_option maxRecDepth 100000 in
theorem step_ref03_ParseTable_0 (F n r : Nat) (K : AEx → ASt UU → Prop) (t0 : ByteArray) (t5 : List ByteArray) (t6 : Int) (c2_0 : ByteArray) (c2_1 : Int) (c2_2 : Int) (c4_0 : ByteArray) (c4_1 : Int) (c4_2 : Int) (l103 : List Ent) : iter (exec C_ref02_Number Tryd.f9.ntmps M_ref03_ParseTable F 0 (cL (cB (cS (cF (cS (cS (cS (cS (bo Tryd.f9)))))))))) (M_ref03_ParseTable 0) (n + 1) r (st_ref03_ParseTable_0 t0 t5 t6 c2_0 c2_1 c2_2 c4_0 c4_1 c4_2 l103) K = g_ref03_ParseTable_s0 (fun t0 t5 t6 c2_0 c2_1 c2_2 c4_0 c4_1 c4_2 l103 => iter (exec C_ref02_Number Tryd.f9.ntmps M_ref03_ParseTable F 0 (cL (cB (cS (cF (cS (cS (cS (cS (bo Tryd.f9)))))))))) (M_ref03_ParseTable 0) n (r + 1) (st_ref03_ParseTable_0 t0 t5 t6 c2_0 c2_1 c2_2 c4_0 c4_1 c4_2 l103) K) (fun t0 t5 t6 c2_0 c2_1 c2_2 c4_0 c4_1 c4_2 l103 => K (.exit 0) (st_ref03_ParseTable_0 t0 t5 t6 c2_0 c2_1 c2_2 c4_0 c4_1 c4_2 l103)) t0 t5 t6 c2_0 c2_1 c2_2 c4_0 c4_1 c4_2 l103 := by kernel_rfl
set_option maxRecDepth 100000 in
theorem cont_ref03_ParseTable_0_0 (F : Nat) (Post : AVal UU → Prop) (t0 : ByteArray) (t5 : List ByteArray) (t6 : Int) (c2_0 : ByteArray) (c2_1 : Int) (c2_2 : Int) (c4_0 : ByteArray) (c4_1 : Int) (c4_2 : Int) (l103 : List Ent) : k_ref03_ParseTable_0 F Post (.exit 0) (st_ref03_ParseTable_0 t0 t5 t6 c2_0 c2_1 c2_2 c4_0 c4_1 c4_2 l103) = g_ref03_ParseTable_c0_0 (fun r0_Material r0_Gauge r0_Die r0_Entries r1 => Post (.tup [.agg [.str r0_Material, .int .i64 r0_Gauge, .int .i64 r0_Die, .new .ent r0_Entries], .int .i64 r1])) t0 t5 t6 c2_0 c2_1 c2_2 c4_0 c4_1 c4_2 l103 := by kernel_rfl
set_option maxRecDepth 100000 in
theorem entry_ref03_ParseTable (F : Nat) (Post : AVal UU → Prop) (a0 : ByteArray) : exec C_ref02_Number Tryd.f9.ntmps M_ref03_ParseTable F 0 (bo Tryd.f9) (initSt [.str a0]) (AEnds C_ref02_Number true Tryd.f9 Post) = g_ref03_ParseTable_e a0 (fun r0_Material r0_Gauge r0_Die r0_Entries r1 => Post (.tup [.agg [.str r0_Material, .int .i64 r0_Gauge, .int .i64 r0_Die, .new .ent r0_Entries], .int .i64 r1])) (fun t0 t5 t6 c2_0 c2_1 c2_2 c4_0 c4_1 c4_2 l103 => iter (exec C_ref02_Number Tryd.f9.ntmps M_ref03_ParseTable F 0 (cL (cB (cS (cF (cS (cS (cS (cS (bo Tryd.f9)))))))))) (M_ref03_ParseTable 0) F 0 (st_ref03_ParseTable_0 t0 t5 t6 c2_0 c2_1 c2_2 c4_0 c4_1 c4_2 l103) (k_ref03_ParseTable_0 F Post)) := by kernel_rfl
theorem loop_ref03_ParseTable_0 (F : Nat) (K : AEx → ASt UU → Prop) : ∀ (n r : Nat) (t0 : ByteArray) (t5 : List ByteArray) (t6 : Int) (c2_0 : ByteArray) (c2_1 : Int) (c2_2 : Int) (c4_0 : ByteArray) (c4_1 : Int) (c4_2 : Int) (l103 : List Ent), iter (exec C_ref02_Number Tryd.f9.ntmps M_ref03_ParseTable F 0 (cL (cB (cS (cF (cS (cS (cS (cS (bo Tryd.f9)))))))))) (M_ref03_ParseTable 0) n r (st_ref03_ParseTable_0 t0 t5 t6 c2_0 c2_1 c2_2 c4_0 c4_1 c4_2 l103) K = w_ref03_ParseTable_0 F  (fun t0 t5 t6 c2_0 c2_1 c2_2 c4_0 c4_1 c4_2 l103 => K (.exit 0) (st_ref03_ParseTable_0 t0 t5 t6 c2_0 c2_1 c2_2 c4_0 c4_1 c4_2 l103)) n t0 t5 t6 c2_0 c2_1 c2_2 c4_0 c4_1 c4_2 l103 := by
  intro n
  induction n with
  | zero => intros; rfl
  | succ n ih =>
    intro r t0 t5 t6 c2_0 c2_1 c2_2 c4_0 c4_1 c4_2 l103
    have e : (fun t0 t5 t6 c2_0 c2_1 c2_2 c4_0 c4_1 c4_2 l103 => iter (exec C_ref02_Number Tryd.f9.ntmps M_ref03_ParseTable F 0 (cL (cB (cS (cF (cS (cS (cS (cS (bo Tryd.f9)))))))))) (M_ref03_ParseTable 0) n (r + 1) (st_ref03_ParseTable_0 t0 t5 t6 c2_0 c2_1 c2_2 c4_0 c4_1 c4_2 l103) K) = w_ref03_ParseTable_0 F  (fun t0 t5 t6 c2_0 c2_1 c2_2 c4_0 c4_1 c4_2 l103 => K (.exit 0) (st_ref03_ParseTable_0 t0 t5 t6 c2_0 c2_1 c2_2 c4_0 c4_1 c4_2 l103)) n := by
      funext t0 t5 t6 c2_0 c2_1 c2_2 c4_0 c4_1 c4_2 l103
      exact ih (r + 1) t0 t5 t6 c2_0 c2_1 c2_2 c4_0 c4_1 c4_2 l103
    rw [step_ref03_ParseTable_0, e]
    rfl
theorem nl_ref03_ParseTable_0 (F : Nat) (Post : AVal UU → Prop) (t0 : ByteArray) (t5 : List ByteArray) (t6 : Int) (c2_0 : ByteArray) (c2_1 : Int) (c2_2 : Int) (c4_0 : ByteArray) (c4_1 : Int) (c4_2 : Int) (l103 : List Ent) : iter (exec C_ref02_Number Tryd.f9.ntmps M_ref03_ParseTable F 0 (cL (cB (cS (cF (cS (cS (cS (cS (bo Tryd.f9)))))))))) (M_ref03_ParseTable 0) F 0 (st_ref03_ParseTable_0 t0 t5 t6 c2_0 c2_1 c2_2 c4_0 c4_1 c4_2 l103) (k_ref03_ParseTable_0 F Post) = n_ref03_ParseTable_0 F (fun r0_Material r0_Gauge r0_Die r0_Entries r1 => Post (.tup [.agg [.str r0_Material, .int .i64 r0_Gauge, .int .i64 r0_Die, .new .ent r0_Entries], .int .i64 r1])) t0 t5 t6 c2_0 c2_1 c2_2 c4_0 c4_1 c4_2 l103 := by
  rw [loop_ref03_ParseTable_0]
  have h0 : (fun t0 t5 t6 c2_0 c2_1 c2_2 c4_0 c4_1 c4_2 l103 => k_ref03_ParseTable_0 F Post (.exit 0) (st_ref03_ParseTable_0 t0 t5 t6 c2_0 c2_1 c2_2 c4_0 c4_1 c4_2 l103)) = (fun t0 t5 t6 c2_0 c2_1 c2_2 c4_0 c4_1 c4_2 l103 => g_ref03_ParseTable_c0_0 (fun r0_Material r0_Gauge r0_Die r0_Entries r1 => Post (.tup [.agg [.str r0_Material, .int .i64 r0_Gauge, .int .i64 r0_Die, .new .ent r0_Entries], .int .i64 r1])) t0 t5 t6 c2_0 c2_1 c2_2 c4_0 c4_1 c4_2 l103) := by
    funext t0 t5 t6 c2_0 c2_1 c2_2 c4_0 c4_1 c4_2 l103
    rw [cont_ref03_ParseTable_0_0]
  rw [h0]
  rfl
theorem exec_ref03_ParseTable (F : Nat) (Post : AVal UU → Prop) (a0 : ByteArray) : exec C_ref02_Number Tryd.f9.ntmps M_ref03_ParseTable F 0 (bo Tryd.f9) (initSt [.str a0]) (AEnds C_ref02_Number true Tryd.f9 Post) = w_ref03_ParseTable F a0 (fun r0_Material r0_Gauge r0_Die r0_Entries r1 => Post (.tup [.agg [.str r0_Material, .int .i64 r0_Gauge, .int .i64 r0_Die, .new .ent r0_Entries], .int .i64 r1])) := by
  rw [entry_ref03_ParseTable]
  have e0 : (fun t0 t5 t6 c2_0 c2_1 c2_2 c4_0 c4_1 c4_2 l103 => iter (exec C_ref02_Number Tryd.f9.ntmps M_ref03_ParseTable F 0 (cL (cB (cS (cF (cS (cS (cS (cS (bo Tryd.f9)))))))))) (M_ref03_ParseTable 0) F 0 (st_ref03_ParseTable_0 t0 t5 t6 c2_0 c2_1 c2_2 c4_0 c4_1 c4_2 l103) (k_ref03_ParseTable_0 F Post)) = (n_ref03_ParseTable_0 F (fun r0_Material r0_Gauge r0_Die r0_Entries r1 => Post (.tup [.agg [.str r0_Material, .int .i64 r0_Gauge, .int .i64 r0_Die, .new .ent r0_Entries], .int .i64 r1]))) := by
    funext t0 t5 t6 c2_0 c2_1 c2_2 c4_0 c4_1 c4_2 l103
    exact nl_ref03_ParseTable_0 F Post t0 t5 t6 c2_0 c2_1 c2_2 c4_0 c4_1 c4_2 l103
  rw [e0]
  rfl
def m_ref03_ParseTable : Model UU
  | [.str a0] => some ([pre_ref03_ParseTable a0], .tup [.agg [.str ((sp_ref03_ParseTable a0).1), .int .i64 ((sp_ref03_ParseTable a0).2.1), .int .i64 ((sp_ref03_ParseTable a0).2.2.1), .new .ent ((sp_ref03_ParseTable a0).2.2.2.1)], .int .i64 ((sp_ref03_ParseTable a0).2.2.2.2)])
  | _ => none
def C_ref03_ParseTable : Cfg UU := C_ref02_Number.add 9 m_ref03_ParseTable
theorem s_ref03_ParseTable : SumOK C_ref03_ParseTable := by
  refine s_ref02_Number.addD mixed (fn := Tryd.f9) (c := bo Tryd.f9) Tryd.func9 (by kernel_rfl) (by kernel_rfl) ?_
  intro xs cs r h hc
  unfold m_ref03_ParseTable at h
  split at h
  · rename_i a0
    cases h
    obtain ⟨F, hF⟩ := ok_ref03_ParseTable a0 hc
    refine ⟨by kernel_rfl, M_ref03_ParseTable, F, true, ⟨?_⟩⟩
    rw [exec_ref03_ParseTable]
    refine hF _ ?_
    rfl
  · cases h
end
end Go.Proofs.YtohecfbnmmgimaaDoor

namespace Go.Proofs.YtohecfbnmmgimaaDoor
open Go.Vm Go.RowKit
set_option linter.unusedVariables false
noncomputable section
def k_ref03_SameTable_0 (F : Nat) (Post : AVal UU → Prop) : AEx → ASt UU → Prop := kBlock 0 (kSeq C_ref03_ParseTable Tryd.f10.ntmps M_ref03_SameTable F 0 (cS (cS (cS (bo Tryd.f10)))) (AEnds C_ref03_ParseTable false Tryd.f10 Post))
set_option maxRecDepth 100000 in
theorem step_ref03_SameTable_0 (F n r : Nat) (K : AEx → ASt UU → Prop) (t4 : Bool) (t5 : Int) (c2_0 : ByteArray) (c2_1 : Int) (c2_2 : Int) (c2_3 : List Ent) (c3_0 : ByteArray) (c3_1 : Int) (c3_2 : Int) (c3_3 : List Ent) : iter (exec C_ref03_ParseTable Tryd.f10.ntmps M_ref03_SameTable F 0 (cL (cB (cS (cF (cS (cS (bo Tryd.f10)))))))) (M_ref03_SameTable 0) (n + 1) r (st_ref03_SameTable_0 t4 t5 c2_0 c2_1 c2_2 c2_3 c3_0 c3_1 c3_2 c3_3) K = g_ref03_SameTable_s0 (fun t4 t5 c2_0 c2_1 c2_2 c2_3 c3_0 c3_1 c3_2 c3_3 => iter (exec C_ref03_ParseTable Tryd.f10.ntmps M_ref03_SameTable F 0 (cL (cB (cS (cF (cS (cS (bo Tryd.f10)))))))) (M_ref03_SameTable 0) n (r + 1) (st_ref03_SameTable_0 t4 t5 c2_0 c2_1 c2_2 c2_3 c3_0 c3_1 c3_2 c3_3) K) (fun t4 t5 c2_0 c2_1 c2_2 c2_3 c3_0 c3_1 c3_2 c3_3 => K .ret (st_ref03_SameTable_0 t4 t5 c2_0 c2_1 c2_2 c2_3 c3_0 c3_1 c3_2 c3_3)) (fun t4 t5 c2_0 c2_1 c2_2 c2_3 c3_0 c3_1 c3_2 c3_3 => K (.exit 0) (st_ref03_SameTable_0 t4 t5 c2_0 c2_1 c2_2 c2_3 c3_0 c3_1 c3_2 c3_3)) t4 t5 c2_0 c2_1 c2_2 c2_3 c3_0 c3_1 c3_2 c3_3 := by kernel_rfl
set_option maxRecDepth 100000 in
theorem cont_ref03_SameTable_0_0 (F : Nat) (Post : AVal UU → Prop) (t4 : Bool) (t5 : Int) (c2_0 : ByteArray) (c2_1 : Int) (c2_2 : Int) (c2_3 : List Ent) (c3_0 : ByteArray) (c3_1 : Int) (c3_2 : Int) (c3_3 : List Ent) : k_ref03_SameTable_0 F Post .ret (st_ref03_SameTable_0 t4 t5 c2_0 c2_1 c2_2 c2_3 c3_0 c3_1 c3_2 c3_3) = g_ref03_SameTable_c0_0 (fun r0 => Post (.bool r0)) t4 t5 c2_0 c2_1 c2_2 c2_3 c3_0 c3_1 c3_2 c3_3 := by kernel_rfl
set_option maxRecDepth 100000 in
theorem cont_ref03_SameTable_0_1 (F : Nat) (Post : AVal UU → Prop) (t4 : Bool) (t5 : Int) (c2_0 : ByteArray) (c2_1 : Int) (c2_2 : Int) (c2_3 : List Ent) (c3_0 : ByteArray) (c3_1 : Int) (c3_2 : Int) (c3_3 : List Ent) : k_ref03_SameTable_0 F Post (.exit 0) (st_ref03_SameTable_0 t4 t5 c2_0 c2_1 c2_2 c2_3 c3_0 c3_1 c3_2 c3_3) = g_ref03_SameTable_c0_1 (fun r0 => Post (.bool r0)) t4 t5 c2_0 c2_1 c2_2 c2_3 c3_0 c3_1 c3_2 c3_3 := by kernel_rfl
set_option maxRecDepth 100000 in
theorem entry_ref03_SameTable (F : Nat) (Post : AVal UU → Prop) (a0_Material : ByteArray) (a0_Gauge : Int) (a0_Die : Int) (a0_Entries : List Ent) (a1_Material : ByteArray) (a1_Gauge : Int) (a1_Die : Int) (a1_Entries : List Ent) : exec C_ref03_ParseTable Tryd.f10.ntmps M_ref03_SameTable F 0 (bo Tryd.f10) (initSt [.agg [.str a0_Material, .int .i64 a0_Gauge, .int .i64 a0_Die, .sl .ent a0_Entries], .agg [.str a1_Material, .int .i64 a1_Gauge, .int .i64 a1_Die, .sl .ent a1_Entries]]) (AEnds C_ref03_ParseTable false Tryd.f10 Post) = g_ref03_SameTable_e a0_Material a0_Gauge a0_Die a0_Entries a1_Material a1_Gauge a1_Die a1_Entries (fun r0 => Post (.bool r0)) (fun t4 t5 c2_0 c2_1 c2_2 c2_3 c3_0 c3_1 c3_2 c3_3 => iter (exec C_ref03_ParseTable Tryd.f10.ntmps M_ref03_SameTable F 0 (cL (cB (cS (cF (cS (cS (bo Tryd.f10)))))))) (M_ref03_SameTable 0) F 0 (st_ref03_SameTable_0 t4 t5 c2_0 c2_1 c2_2 c2_3 c3_0 c3_1 c3_2 c3_3) (k_ref03_SameTable_0 F Post)) := by kernel_rfl
theorem loop_ref03_SameTable_0 (F : Nat) (K : AEx → ASt UU → Prop) : ∀ (n r : Nat) (t4 : Bool) (t5 : Int) (c2_0 : ByteArray) (c2_1 : Int) (c2_2 : Int) (c2_3 : List Ent) (c3_0 : ByteArray) (c3_1 : Int) (c3_2 : Int) (c3_3 : List Ent), iter (exec C_ref03_ParseTable Tryd.f10.ntmps M_ref03_SameTable F 0 (cL (cB (cS (cF (cS (cS (bo Tryd.f10)))))))) (M_ref03_SameTable 0) n r (st_ref03_SameTable_0 t4 t5 c2_0 c2_1 c2_2 c2_3 c3_0 c3_1 c3_2 c3_3) K = w_ref03_SameTable_0 F  (fun t4 t5 c2_0 c2_1 c2_2 c2_3 c3_0 c3_1 c3_2 c3_3 => K .ret (st_ref03_SameTable_0 t4 t5 c2_0 c2_1 c2_2 c2_3 c3_0 c3_1 c3_2 c3_3)) (fun t4 t5 c2_0 c2_1 c2_2 c2_3 c3_0 c3_1 c3_2 c3_3 => K (.exit 0) (st_ref03_SameTable_0 t4 t5 c2_0 c2_1 c2_2 c2_3 c3_0 c3_1 c3_2 c3_3)) n t4 t5 c2_0 c2_1 c2_2 c2_3 c3_0 c3_1 c3_2 c3_3 := by
  intro n
  induction n with
  | zero => intros; rfl
  | succ n ih =>
    intro r t4 t5 c2_0 c2_1 c2_2 c2_3 c3_0 c3_1 c3_2 c3_3
    have e : (fun t4 t5 c2_0 c2_1 c2_2 c2_3 c3_0 c3_1 c3_2 c3_3 => iter (exec C_ref03_ParseTable Tryd.f10.ntmps M_ref03_SameTable F 0 (cL (cB (cS (cF (cS (cS (bo Tryd.f10)))))))) (M_ref03_SameTable 0) n (r + 1) (st_ref03_SameTable_0 t4 t5 c2_0 c2_1 c2_2 c2_3 c3_0 c3_1 c3_2 c3_3) K) = w_ref03_SameTable_0 F  (fun t4 t5 c2_0 c2_1 c2_2 c2_3 c3_0 c3_1 c3_2 c3_3 => K .ret (st_ref03_SameTable_0 t4 t5 c2_0 c2_1 c2_2 c2_3 c3_0 c3_1 c3_2 c3_3)) (fun t4 t5 c2_0 c2_1 c2_2 c2_3 c3_0 c3_1 c3_2 c3_3 => K (.exit 0) (st_ref03_SameTable_0 t4 t5 c2_0 c2_1 c2_2 c2_3 c3_0 c3_1 c3_2 c3_3)) n := by
      funext t4 t5 c2_0 c2_1 c2_2 c2_3 c3_0 c3_1 c3_2 c3_3
      exact ih (r + 1) t4 t5 c2_0 c2_1 c2_2 c2_3 c3_0 c3_1 c3_2 c3_3
    rw [step_ref03_SameTable_0, e]
    rfl
theorem nl_ref03_SameTable_0 (F : Nat) (Post : AVal UU → Prop) (t4 : Bool) (t5 : Int) (c2_0 : ByteArray) (c2_1 : Int) (c2_2 : Int) (c2_3 : List Ent) (c3_0 : ByteArray) (c3_1 : Int) (c3_2 : Int) (c3_3 : List Ent) : iter (exec C_ref03_ParseTable Tryd.f10.ntmps M_ref03_SameTable F 0 (cL (cB (cS (cF (cS (cS (bo Tryd.f10)))))))) (M_ref03_SameTable 0) F 0 (st_ref03_SameTable_0 t4 t5 c2_0 c2_1 c2_2 c2_3 c3_0 c3_1 c3_2 c3_3) (k_ref03_SameTable_0 F Post) = n_ref03_SameTable_0 F (fun r0 => Post (.bool r0)) t4 t5 c2_0 c2_1 c2_2 c2_3 c3_0 c3_1 c3_2 c3_3 := by
  rw [loop_ref03_SameTable_0]
  have h0 : (fun t4 t5 c2_0 c2_1 c2_2 c2_3 c3_0 c3_1 c3_2 c3_3 => k_ref03_SameTable_0 F Post .ret (st_ref03_SameTable_0 t4 t5 c2_0 c2_1 c2_2 c2_3 c3_0 c3_1 c3_2 c3_3)) = (fun t4 t5 c2_0 c2_1 c2_2 c2_3 c3_0 c3_1 c3_2 c3_3 => g_ref03_SameTable_c0_0 (fun r0 => Post (.bool r0)) t4 t5 c2_0 c2_1 c2_2 c2_3 c3_0 c3_1 c3_2 c3_3) := by
    funext t4 t5 c2_0 c2_1 c2_2 c2_3 c3_0 c3_1 c3_2 c3_3
    rw [cont_ref03_SameTable_0_0]
  have h1 : (fun t4 t5 c2_0 c2_1 c2_2 c2_3 c3_0 c3_1 c3_2 c3_3 => k_ref03_SameTable_0 F Post (.exit 0) (st_ref03_SameTable_0 t4 t5 c2_0 c2_1 c2_2 c2_3 c3_0 c3_1 c3_2 c3_3)) = (fun t4 t5 c2_0 c2_1 c2_2 c2_3 c3_0 c3_1 c3_2 c3_3 => g_ref03_SameTable_c0_1 (fun r0 => Post (.bool r0)) t4 t5 c2_0 c2_1 c2_2 c2_3 c3_0 c3_1 c3_2 c3_3) := by
    funext t4 t5 c2_0 c2_1 c2_2 c2_3 c3_0 c3_1 c3_2 c3_3
    rw [cont_ref03_SameTable_0_1]
  rw [h0, h1]
  rfl
theorem exec_ref03_SameTable (F : Nat) (Post : AVal UU → Prop) (a0_Material : ByteArray) (a0_Gauge : Int) (a0_Die : Int) (a0_Entries : List Ent) (a1_Material : ByteArray) (a1_Gauge : Int) (a1_Die : Int) (a1_Entries : List Ent) : exec C_ref03_ParseTable Tryd.f10.ntmps M_ref03_SameTable F 0 (bo Tryd.f10) (initSt [.agg [.str a0_Material, .int .i64 a0_Gauge, .int .i64 a0_Die, .sl .ent a0_Entries], .agg [.str a1_Material, .int .i64 a1_Gauge, .int .i64 a1_Die, .sl .ent a1_Entries]]) (AEnds C_ref03_ParseTable false Tryd.f10 Post) = w_ref03_SameTable F a0_Material a0_Gauge a0_Die a0_Entries a1_Material a1_Gauge a1_Die a1_Entries (fun r0 => Post (.bool r0)) := by
  rw [entry_ref03_SameTable]
  have e0 : (fun t4 t5 c2_0 c2_1 c2_2 c2_3 c3_0 c3_1 c3_2 c3_3 => iter (exec C_ref03_ParseTable Tryd.f10.ntmps M_ref03_SameTable F 0 (cL (cB (cS (cF (cS (cS (bo Tryd.f10)))))))) (M_ref03_SameTable 0) F 0 (st_ref03_SameTable_0 t4 t5 c2_0 c2_1 c2_2 c2_3 c3_0 c3_1 c3_2 c3_3) (k_ref03_SameTable_0 F Post)) = (n_ref03_SameTable_0 F (fun r0 => Post (.bool r0))) := by
    funext t4 t5 c2_0 c2_1 c2_2 c2_3 c3_0 c3_1 c3_2 c3_3
    exact nl_ref03_SameTable_0 F Post t4 t5 c2_0 c2_1 c2_2 c2_3 c3_0 c3_1 c3_2 c3_3
  rw [e0]
  rfl
def m_ref03_SameTable : Model UU
  | [.agg [.str a0_Material, .int .i64 a0_Gauge, .int .i64 a0_Die, .sl .ent a0_Entries], .agg [.str a1_Material, .int .i64 a1_Gauge, .int .i64 a1_Die, .sl .ent a1_Entries]] => some ([pre_ref03_SameTable a0_Material a0_Gauge a0_Die a0_Entries a1_Material a1_Gauge a1_Die a1_Entries], .bool (sp_ref03_SameTable a0_Material a0_Gauge a0_Die a0_Entries a1_Material a1_Gauge a1_Die a1_Entries))
  | _ => none
def C_ref03_SameTable : Cfg UU := C_ref03_ParseTable.add 10 m_ref03_SameTable
theorem s_ref03_SameTable : SumOK C_ref03_SameTable := by
  refine s_ref03_ParseTable.addD mixed (fn := Tryd.f10) (c := bo Tryd.f10) Tryd.func10 (by kernel_rfl) (by kernel_rfl) ?_
  intro xs cs r h hc
  unfold m_ref03_SameTable at h
  split at h
  · rename_i a0_Material a0_Gauge a0_Die a0_Entries a1_Material a1_Gauge a1_Die a1_Entries
    cases h
    obtain ⟨F, hF⟩ := ok_ref03_SameTable a0_Material a0_Gauge a0_Die a0_Entries a1_Material a1_Gauge a1_Die a1_Entries hc
    refine ⟨by kernel_rfl, M_ref03_SameTable, F, false, ⟨?_⟩⟩
    rw [exec_ref03_SameTable]
    refine hF _ ?_
    rfl
  · cases h
end
end Go.Proofs.YtohecfbnmmgimaaDoor

namespace Go.Proofs.YtohecfbnmmgimaaDoor
open Go.Vm Go.RowKit
set_option linter.unusedVariables false
noncomputable section
set_option maxRecDepth 100000 in
theorem entry_law03_FlatTexts (F : Nat) (Post : AVal UU → Prop) (a0_Material : ByteArray) (a0_Gauge : Int) (a0_Die : Int) (a0_Entries : List Ent) (a1 : ByteArray) : exec C_ref03_SameTable Tryd.f3.ntmps M_law03_FlatTexts F 0 (bo Tryd.f3) (initSt [.agg [.str a0_Material, .int .i64 a0_Gauge, .int .i64 a0_Die, .sl .ent a0_Entries], .str a1]) (AEnds C_ref03_SameTable false Tryd.f3 Post) = g_law03_FlatTexts_e a0_Material a0_Gauge a0_Die a0_Entries a1 (fun r0 => Post (.bool r0)) := by kernel_rfl
theorem exec_law03_FlatTexts (F : Nat) (Post : AVal UU → Prop) (a0_Material : ByteArray) (a0_Gauge : Int) (a0_Die : Int) (a0_Entries : List Ent) (a1 : ByteArray) : exec C_ref03_SameTable Tryd.f3.ntmps M_law03_FlatTexts F 0 (bo Tryd.f3) (initSt [.agg [.str a0_Material, .int .i64 a0_Gauge, .int .i64 a0_Die, .sl .ent a0_Entries], .str a1]) (AEnds C_ref03_SameTable false Tryd.f3 Post) = w_law03_FlatTexts F a0_Material a0_Gauge a0_Die a0_Entries a1 (fun r0 => Post (.bool r0)) := by
  rw [entry_law03_FlatTexts]
  rfl
end
end Go.Proofs.YtohecfbnmmgimaaDoor

namespace Go.Proofs.YtohecfbnmmgimaaDoor
open Go.Vm Go.ChangeShapes Go.WideShapes Go.ChangeAt Go.RowKit Go.Joins
set_option linter.unusedVariables false
noncomputable section

theorem own : ownKnob Tryd.prog.godebug = none := by kernel_rfl
theorem laidOut : laidOutB Tryd.prog = true := by kernel_rfl
theorem inv0_of {W : World} (h : W.ShapedOpen Tryd.prog) : inv0 W := Tryd.laysM144.s1_3 W h

theorem ent_all (ns : List Int) (h : ns.length = UU.size .ent) : ∃ z : UU.T .ent, EE.enc .ent z = ns.map (AVal.int .i64) := by
  match ns, h with
  | [a, b, c], _ => exact ⟨Ent.mk a b c, rfl⟩
theorem opens_ent {H : Type} {enc : TypeId × Value → H} {W : World} : Opens C_base enc W 51 .ent :=
  opens_ints 5 (by kernel_rfl) (by kernel_rfl) (by kernel_rfl) (by kernel_rfl) ent_all

set_option maxRecDepth 100000 in
/-- A table that came in. -/
theorem open_table {H : Type} {enc : TypeId × Value → H} {W : World} {base : Nat} {v : Value} {x : DataW H} {ps : List MemPlace} (hok : Value.okWide Tryd.prog W .any base 24 v) (h : DataW.Trod enc Tryd.prog W 0 (fun _ => true) true 24 v x ps) :
    ∃ (m : ByteArray) (g d : Int) (es : List Ent), Rel EE W noOwn (Out' (fun _ => False) W) (AVal.agg [.str m, .int .i64 g, .int .i64 d, .sl .ent es] : AVal UU) v := by
  obtain ⟨zs, h1, h2, h3⟩ := open_agg (C := C_base) (d := 5) (t := 24) (fun u hu => by
    have hl : leafTys Tryd.prog 5 24 = [9, 3, 3, 22] := by kernel_rfl
    have hu' : u ∈ [9, 3, 3, 22] := hl ▸ hu
    simp only [List.mem_cons, List.not_mem_nil, or_false] at hu'
    rcases hu' with rfl | rfl | rfl | rfl
    · exact ⟨by kernel_rfl, fun e he => by rw [show C_base.P.underlying 9 = _ from Tryd.underlying9] at he; cases he⟩
    · exact ⟨by kernel_rfl, fun e he => by rw [show C_base.P.underlying 3 = _ from Tryd.underlying3] at he; cases he⟩
    · exact ⟨by kernel_rfl, fun e he => by rw [show C_base.P.underlying 3 = _ from Tryd.underlying3] at he; cases he⟩
    · refine ⟨by kernel_rfl, fun e he => ?_⟩
      rw [show C_base.P.underlying 22 = _ from Tryd.underlying22] at he
      cases he
      exact ⟨.ent, by kernel_rfl, opens_ent⟩) (by kernel_rfl) (by kernel_rfl) (by kernel_rfl) hok h
  have hl : leafTys C_base.P 5 24 = [9, 3, 3, 22] := by kernel_rfl
  simp only [hl] at h1 h2
  match zs, h1 with
  | [a0, a1, a2, a3], _ =>
    have f0 := h2 0 (by simp) (by simp)
    have f1 := h2 1 (by simp) (by simp)
    have f2 := h2 2 (by simp) (by simp)
    have f3 := h2 3 (by simp) (by simp)
    simp only [List.getElem_cons_zero, List.getElem_cons_succ, Fits] at f0 f1 f2 f3
    rw [show C_base.P.underlying 9 = _ from Tryd.underlying9] at f0
    rw [show C_base.P.underlying 3 = _ from Tryd.underlying3] at f1 f2
    rw [show C_base.P.underlying 22 = _ from Tryd.underlying22] at f3
    obtain ⟨m, rfl, _⟩ := f0
    obtain ⟨g, rfl, _⟩ := f1
    obtain ⟨d, rfl, _⟩ := f2
    obtain ⟨τ, es, hτ, rfl, _⟩ := f3
    have hτ' : C_base.elt 51 = some .ent := by kernel_rfl
    obtain rfl : Knd.ent = τ := Option.some.inj (hτ'.symm.trans hτ)
    exact ⟨m, g, d, es, h3⟩

/-! ### What the row's list gives -/
theorem iface_head {n nm : String} {dd : DataW Unit} {r : List (String × DataW Unit)} {W : World} {g ti : Nat} {ms : Array (String × TypeId)} (hg : Tryd.prog.globalNamed n = some g) (ht : (Tryd.prog.globals[g]?).map (·.type) = some ti) (hi : Tryd.prog.underlying ti = some (.interface ms))
    (h : laidMet Tryd.prog ((n, .iface nm dd) :: r) W) : ∃ te pe, W.cell? ⟨g, 0, none⟩ = some (.iface te pe) := by
  obtain ⟨ps, ⟨g0, t0, cs0, f0, p0, q0, hg0, ht0, hv0, hd0, _, e0⟩, _, hrows⟩ := h
  obtain rfl := Option.some.inj (hg.symm.trans hg0)
  obtain rfl := Option.some.inj (ht.symm.trans ht0)
  obtain ⟨f', u, v, e, _, _⟩ := iface_of_trod hi hd0
  obtain ⟨l0⟩ := cs0
  have e : l0 = [.iface u v] := e
  subst e
  exact ⟨u, v, by simpa using World.var?_cell hg0 hv0 0⟩
theorem pow_data : (Rows.laid_internal_strconv_uint64pow10 : DataW Unit) = Lib.tabData .u64 Lib.pow10Tab := by kernel_rfl
theorem inv1_of {W : World} (hsh : W.ShapedOpen Tryd.prog) (hL : laidMetH Tryd.prog Rows.flatTextsRow.laid W) : inv1 W := by
  rw [MakeChecks.laidMetH_plain _ _ _ (by kernel_rfl)] at hL
  have hL' : laidMet Tryd.prog [("math/bits.deBruijn32tab", Rows.laid_math_bits_deBruijn32tab), ("math/bits.deBruijn64tab", Rows.laid_math_bits_deBruijn64tab), ("internal/strconv.uint64pow10", Rows.laid_internal_strconv_uint64pow10), ("unicode/utf8.acceptRanges", Rows.laid_unicode_utf8_acceptRanges), ("strconv.ErrRange", Rows.laid_strconv_ErrRange), ("strconv.ErrSyntax", Rows.laid_strconv_ErrSyntax), ("unicode/utf8.first", Rows.laid_unicode_utf8_first)] W := hL
  have h3 := hL'.tail.tail
  have h5 := h3.tail.tail
  have h6 := h5.tail
  rw [pow_data] at h3
  refine ⟨inv0_of hsh, ?_, ?_, Lib.tabIs_of_head (g := 3) (t := 103) (by kernel_rfl) (by kernel_rfl) Tryd.underlying103 (by kernel_rfl) (by kernel_rfl) (by kernel_rfl) h3⟩
  · exact iface_head (g := 0) (ti := 46) (by kernel_rfl) (by kernel_rfl) Tryd.underlying46 h6
  · exact iface_head (g := 1) (ti := 46) (by kernel_rfl) (by kernel_rfl) Tryd.underlying46 h5

set_option maxRecDepth 100000 in
theorem walk3 {v : Value} {m : ByteArray} {g d : Int} {es : List Ent} {t : ByteArray} (W : World) (hi : inv1 W) (hr : Rel EE W noOwn (Out' (fun _ => False) W) (AVal.agg [.str m, .int .i64 g, .int .i64 d, .sl .ent es] : AVal UU) v) :
    Calls Tryd.prog 3 #[v, .string t] W fun e W' => e = .returned (.bool true) ∧ Below W.heap.size W W' := by
  refine law_callsM (fr := false) (C := C_ref03_SameTable) (c := bo Tryd.f3) (M := M_law03_FlatTexts) (fuel := 1) s_ref03_SameTable mixed Tryd.func3 (by kernel_rfl) (xs := [.agg [.str m, .int .i64 g, .int .i64 d, .sl .ent es], .str t]) hi ⟨rfl, fun k hk => ?_⟩ (by kernel_rfl) ⟨?_⟩
  · match k, hk with
    | 0, _ => exact hr
    | 1, _ => exact .str _
  · rw [exec_law03_FlatTexts]
    refine cast ?_ (law_texts m g d es t)
    congr 1
    funext r
    simp

/-- The wrap of a row that lists variables, the world's shape kept. -/
theorem handed_and_shaped {H : Type} {enc : TypeId × Value → H} {a : Assume} {C : Checked} {os : Os} {f : FuncId} {fn : Func} {s : ChangeSpec} {conds : List PathCond} {apart fresh handsOn again : Bool} {X : World → Array Value → Prop}
    (hX : ∀ (w w' : World) (args : Array Value), w.heap = w'.heap → X w args → X w' args)
    (own : ownKnob C.prog.godebug = none) (started : os.Started) (noInit : C.prog.inits.idxOf? f = none) (hfn : C.prog.funcs[f]? = some fn)
    (witness : ∃ (w : World) (tape : Tape) (i : Input), w.os = os ∧ (w.forCall tape i).Shaped C.prog ∧ i.vars = [] ∧ Input.okWide C.prog (w.forCall tape i) .any w.heap.size f i ∧
      ((s.pre enc C.prog fn conds apart (w.forCall tape i).memory i.args ∧ X (w.forCall tape i).memory i.args) ∧ sizedMet enc C.prog fn (OpenSpec.ofChange s) apart (w.forCall tape i).memory i.args) ∧ a.holds C.prog (lone (Frame.enter C.prog f i.args .normal) [] (w.forCall tape i)))
    (contract : ∀ (W : World) (base : Nat) (args : Array Value) (ds gs : List (DataW H)) (before : List MemPlace),
      (∀ (j : Nat) t v, fn.params[j]? = some t → args[j]? = some v → Value.okWide C.prog W .any base t v) →
      DataW.Whole enc C.prog fn.params.toList s.vars apart W args.toList ds gs before → X W args → W.ShapedOpen C.prog →
      Calls C.prog f args W fun e W' => ∃ v, e = .returned v ∧ s.post enc C.prog fn apart fresh handsOn again W args v W') :
    ReturnsInHanded a C os f .any (fun w args => (s.pre enc C.prog fn conds apart w args ∧ X w args) ∧ sizedMet enc C.prog fn (OpenSpec.ofChange s) apart w args) (s.post enc C.prog fn apart fresh handsOn again) := by
  refine returnsInHanded_of_calls own started noInit witness ?_
  intro w tape i _ hsh _ hok hpre _
  obtain ⟨_, _, _, fn', hfn', _, _, _, _, hval⟩ := hok
  have e : fn' = fn := Option.some.inj (hfn'.symm.trans hfn)
  subst e
  obtain ⟨⟨⟨ds, gs, before, hw, _⟩, hx⟩, _⟩ := hpre
  have hw' := DataW.Whole.of_heap (w' := w.forCall tape i) (by rfl) hw
  refine (contract (w.forCall tape i) w.heap.size i.args ds gs before hval hw' (hX _ _ _ (by rfl) hx) hsh).mono fun e W' ⟨v, he, hp⟩ => ?_
  subst he
  exact ChangeSpec.post_blind hp

set_option maxRecDepth 100000 in
theorem lifted3 (os : Os) (started : os.Started) (H : Type) (enc : TypeId × Value → H) :
    ReturnsInHanded {} Tryd.checked os 3 .any (fun w args => (Rows.flatTextsSpec.pre enc Tryd.prog Tryd.f3 Rows.flatTextsRow.domain false w args ∧ laidMetH Tryd.prog Rows.flatTextsRow.laid w) ∧ sizedMet enc Tryd.prog Tryd.f3 (OpenSpec.ofChange Rows.flatTextsSpec) false w args)
      (Rows.flatTextsSpec.post enc Tryd.prog Tryd.f3 false true false false) := by
  refine handed_and_shaped (C := Tryd.checked) (X := fun w _ => laidMetH Tryd.prog Rows.flatTextsRow.laid w) (fun _ _ _ hh h => h.of_heap hh) own started (by kernel_rfl) Tryd.func3
    (ChangeSpec.witness_shaped (enc := enc) (C := Tryd.checked) (os := os) (X := fun w _ => laidMetH Tryd.prog Rows.flatTextsRow.laid w) false (World.laidAll Tryd.prog os Rows.flatTextsRow.laid) #[.agg #[.string ByteArray.empty, .int .i64 0, .int .i64 0, .slice none 0 0], .string ByteArray.empty] 8 (World.laidAll_os _ _ _)
      (World.shaped_of_ZipB (by kernel_rfl) (by kernel_rfl)) (by kernel_rfl) (by kernel_rfl) (by kernel_rfl)
      (by rw [MakeChecks.laidMetH_plain _ _ _ (by kernel_rfl)]; exact laidMet_laidAll _ (by kernel_rfl) (by kernel_rfl))) ?_
  intro W base args ds gs before hval0 hW hL hsh
  have hval : ∀ (j : Nat) t v, Tryd.f3.params[j]? = some t → args[j]? = some v → Value.okWide Tryd.prog W .any base t v := hval0
  have hsh' : W.ShapedOpen Tryd.prog := hsh
  have hW' := hW
  obtain ⟨p, q, hA0, hV, rfl, _, _⟩ := hW
  have hA : DataW.TrodAll enc Tryd.prog W 0 (fun _ => true) true Tryd.f3.params.toList args.toList ds p := hA0
  rw [Tryd.params3] at hA hval
  obtain ⟨v0, vs0, d0, ds0, p0, q0, hargs, rfl, rfl, h0, r0⟩ := trodAll_cons hA
  obtain ⟨v1, vs1, d1, ds1, p1, q1, rfl, rfl, rfl, h1, r1⟩ := trodAll_cons r0
  obtain ⟨rfl, rfl, rfl⟩ := trodAll_nil r1
  obtain rfl : args = #[v0, v1] := by cases args; simp_all
  obtain ⟨m, g, d, es, hr⟩ := open_table (hval 0 24 v0 rfl rfl) h0
  obtain ⟨t, rfl, _⟩ := Go.ChangeMaps.open_string Tryd.underlying9 (hval 1 9 v1 rfl rfl) h1
  refine (walk3 W (inv1_of hsh' hL) hr).mono fun e W' ⟨he, hb⟩ => ?_
  subst he
  exact ⟨_, rfl, law_post (tb := 4) laidOut (by kernel_rfl) rfl Tryd.underlying4 rfl rfl hW' hb⟩

theorem texts : Rows.FlatTextsSaid :=
  OpenClaim.holds_of_wide 3 Tryd.f3 rfl rfl rfl rfl rfl rfl rfl ⟨rfl, rfl, rfl, rfl, rfl⟩ rfl rfl rfl rfl rfl (by kernel_rfl) Tryd.func3 (by kernel_rfl)
    (of_decide_eq_true (by kernel_rfl)) (by unfold Func.isWrapper; first | (rw [if_pos (by decide +kernel)]; kernel_rfl) | (rw [if_neg (by decide +kernel)]; exact ⟨rfl, rfl⟩))
    (fun os started H enc _ => lifted3 os started H enc)
end
end Go.Proofs.YtohecfbnmmgimaaDoor

namespace Go.Proofs.YtohecfbnmmgimaaDoor
open Go
set_option linter.unusedVariables false
set_option maxRecDepth 100000 in
theorem textsCard : Rows.FlatTextsCardSaid :=
  Claim7.holds_tied_plain_at .later [] [.data, .data, .data, .data, .sentinel, .sentinel, .pinned] true (true, "b3d4adf0540bbf33d1b11616e0323226582edfb31faa7abc850b1213c4af9127") true
    texts (fun _ h => by cases h) (by kernel_rfl) (fun _ h => by cases h) flatTexts_row_tie rfl ⟨rfl, rfl⟩ (by kernel_rfl) rfl
    (fun f fn hf hfn => by
      obtain rfl : f = 3 := Option.some.inj ((show Tryd.prog.funcNamed "sheetmetal/sheetmetallaw03.FlatTexts" = some 3 by kernel_rfl).symm.trans hf) |>.symm
      obtain rfl : fn = Tryd.f3 := (Option.some.inj (Tryd.func3.symm.trans hfn)).symm
      exact ⟨by kernel_rfl, fun j t ht => by
        rw [Tryd.params3] at ht
        have h3 : t = 24 ∨ t = 9 := by
          rcases j with _ | _ | j
          · exact .inl (by simpa using ht.symm)
          · exact .inr (by simpa using ht.symm)
          · simp at ht
        rcases h3 with rfl | rfl
        · exact (show Tryd.prog.wantsStandIn 24 = false by kernel_rfl)
        · exact (show Tryd.prog.wantsStandIn 9 = false by kernel_rfl)⟩)
    (by kernel_rfl)
end Go.Proofs.YtohecfbnmmgimaaDoor
