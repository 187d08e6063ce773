/- Texts of this proof, one behind another: What pieces of code must make hold, in plain Lean; printed by gen.py. Conditions: none; de; Surfaces: sums over unit cells, and over the strips between places in order. Conditions: n; Surfaces: the lines of a grid, and the length of a region at a height. Conditions: none.; What pieces of code must make hold, in plain Lean; printed by gen.py. Conditions: none; de; Surfaces: what geom.Area and flat's area return. Conditions: none.; What pieces of code must make hold, in plain Lean; printed by gen.py. Conditions: none; de; Surfaces: what flat's alone returns. Conditions: none.; What pieces of code must make hold, in plain Lean; printed by gen.py. Conditions: none; de; Surfaces: what flat.Surface returns. Conditions: none.; What pieces of code must make hold, in plain Lean; printed by gen.py. Conditions: none; de; Surfaces: what the reference's insert, covers and Both return. Conditions: none.; What pieces of code must make hold, in plain Lean; printed by gen.py. Conditions: none; de; Surfaces: what the reference's MakeGrid and Size return. Conditions: none.; What pieces of code must make hold, in plain Lean; printed by gen.py. Conditions: none; de; Surfaces: what the reference's Surface returns. Conditions: none.; What pieces of code must make hold, in plain Lean; printed by gen.py. Conditions: none; de; That the law of surfaces returns true, in plain Lean. Conditions: none.; That the code says what the printed pieces say, by the kernel; printed by gen.py. Conditio; That the cod. Conditions: none. -/
import Derived.Test.YtohecfbnmmgimaaSf4
namespace Go.Proofs.Ytohecfbnmmgimaa
open Go.Vm Go.RowKit
set_option linter.unusedVariables false
noncomputable section
/-! ### sheetmetal/geom.newGrid -/
def M_geom_newGrid : Nat → Nat → Canon UU := fun b r => cond (Nat.beq b 0) ⟨[2, 3, 8, 9, 10], [2, 3], [(.cell 3 0, 55, .int), (.cell 3 1, 56, .int)], [], []⟩ (cond (Nat.beq b 2) ⟨[2, 3, 8, 9, 10, 14, 15, 16], [2, 3], [(.cell 3 0, 55, .int), (.cell 3 1, 56, .int)], [], []⟩ (⟨[], [], [], [], []⟩))
def st_geom_newGrid_0 (t8 : List (List Rect)) (t9 : Int) (t10 : Int) (l55 : List Int) (l56 : List Int) : ASt UU := ⟨fun u => cond (Nat.beq u 2) (.ptr 2 0) (cond (Nat.beq u 3) (.ptr 3 0) (cond (Nat.beq u 8) (.sl .rects t8) (cond (Nat.beq u 9) (.int .i64 t9) (cond (Nat.beq u 10) (.int .i64 t10) (.any))))), fun u => cond (Nat.beq u 55) (some (.row .int 0 l55)) (cond (Nat.beq u 56) (some (.row .int 0 l56)) (cond (Nat.beq u 2) (some (.cells [.nils, .nils])) (cond (Nat.beq u 3) (some (.cells [.osl 55 0, .osl 56 0])) (none))))⟩
def st_geom_newGrid_1 (t8 : List (List Rect)) (t9 : Int) (t10 : Int) (t14 : List Rect) (t15 : Int) (t16 : Int) (l55 : List Int) (l56 : List Int) : ASt UU := ⟨fun u => cond (Nat.beq u 2) (.ptr 2 0) (cond (Nat.beq u 3) (.ptr 3 0) (cond (Nat.beq u 8) (.sl .rects t8) (cond (Nat.beq u 9) (.int .i64 t9) (cond (Nat.beq u 10) (.int .i64 t10) (cond (Nat.beq u 14) (.sl .rect t14) (cond (Nat.beq u 15) (.int .i64 t15) (cond (Nat.beq u 16) (.int .i64 t16) (.any)))))))), fun u => cond (Nat.beq u 55) (some (.row .int 0 l55)) (cond (Nat.beq u 56) (some (.row .int 0 l56)) (cond (Nat.beq u 2) (some (.cells [.nils, .nils])) (cond (Nat.beq u 3) (some (.cells [.osl 55 0, .osl 56 0])) (none))))⟩
def g_geom_newGrid_e (a0 : List (List Rect)) (Q : List Int → List Int → Prop) (i0 : List (List Rect) → Int → Int → List Int → List Int → Prop) : Prop := i0 a0 (a0.length : Int) 0 ([]) ([])
def g_geom_newGrid_s0 (rec : List (List Rect) → Int → Int → List Int → List Int → Prop) (x0 : List (List Rect) → Int → Int → List Int → List Int → Prop) (t8 : List (List Rect)) (t9 : Int) (t10 : Int) (l55 : List Int) (l56 : List Int) (i1 : List (List Rect) → Int → Int → List Rect → Int → Int → List Int → List Int → Prop) : Prop := cond (decide (t10 < t9)) ((let e0 := (t8.getD t10.toNat default); ((0 ≤ t10 ∧ t10 < t8.length) ∧ i1 t8 t9 t10 e0 (e0.length : Int) 0 l55 l56))) (x0 t8 t9 t10 l55 l56)
def g_geom_newGrid_c0_0 (Q : List Int → List Int → Prop) (t8 : List (List Rect)) (t9 : Int) (t10 : Int) (l55 : List Int) (l56 : List Int) : Prop := ((l55.length ≤ 1000) ∧ ((l56.length ≤ 1000) ∧ Q (srt l55) (srt l56)))
def g_geom_newGrid_s1 (rec : List (List Rect) → Int → Int → List Rect → Int → Int → List Int → List Int → Prop) (x0 : List (List Rect) → Int → Int → List Rect → Int → Int → List Int → List Int → Prop) (t8 : List (List Rect)) (t9 : Int) (t10 : Int) (t14 : List Rect) (t15 : Int) (t16 : Int) (l55 : List Int) (l56 : List Int) : Prop := cond (decide (t16 < t15)) ((let e0 := (t14.getD t16.toNat default); ((0 ≤ t16 ∧ t16 < t14.length) ∧ (((l55.length + ([e0.X, w64 (e0.X + e0.W)]).length) * 8 ≤ 140737488355328) ∧ (((l56.length + ([e0.Y, w64 (e0.Y + e0.H)]).length) * 8 ≤ 140737488355328) ∧ rec t8 t9 t10 t14 t15 (w64 (t16 + 1)) (l55 ++ ([e0.X, w64 (e0.X + e0.W)])) (l56 ++ ([e0.Y, w64 (e0.Y + e0.H)]))))))) (x0 t8 t9 t10 t14 t15 t16 l55 l56)
def g_geom_newGrid_c1_0 (rec : List (List Rect) → Int → Int → List Int → List Int → Prop) (x0 : List (List Rect) → Int → Int → List Int → List Int → Prop) (t8 : List (List Rect)) (t9 : Int) (t10 : Int) (t14 : List Rect) (t15 : Int) (t16 : Int) (l55 : List Int) (l56 : List Int) : Prop := rec t8 t9 (w64 (t10 + 1)) l55 l56
def w_geom_newGrid_1 (F : Nat) (x0 : List (List Rect) → Int → Int → List Rect → Int → Int → List Int → List Int → Prop) : Nat → List (List Rect) → Int → Int → List Rect → Int → Int → List Int → List Int → Prop
  | 0, _, _, _, _, _, _, _, _ => False
  | n + 1, t8, t9, t10, t14, t15, t16, l55, l56 => g_geom_newGrid_s1 (w_geom_newGrid_1 F x0 n) x0 t8 t9 t10 t14 t15 t16 l55 l56
def n_geom_newGrid_1 (F : Nat) (rec : List (List Rect) → Int → Int → List Int → List Int → Prop) (x0 : List (List Rect) → Int → Int → List Int → List Int → Prop) (t8 : List (List Rect)) (t9 : Int) (t10 : Int) (t14 : List Rect) (t15 : Int) (t16 : Int) (l55 : List Int) (l56 : List Int) : Prop := w_geom_newGrid_1 F (fun t8 t9 t10 t14 t15 t16 l55 l56 => g_geom_newGrid_c1_0 rec x0 t8 t9 t10 t14 t15 t16 l55 l56) F t8 t9 t10 t14 t15 t16 l55 l56
def w_geom_newGrid_0 (F : Nat) (x0 : List (List Rect) → Int → Int → List Int → List Int → Prop) : Nat → List (List Rect) → Int → Int → List Int → List Int → Prop
  | 0, _, _, _, _, _ => False
  | n + 1, t8, t9, t10, l55, l56 => g_geom_newGrid_s0 (w_geom_newGrid_0 F x0 n) x0 t8 t9 t10 l55 l56 (n_geom_newGrid_1 F (w_geom_newGrid_0 F x0 n) x0)
def n_geom_newGrid_0 (F : Nat) (Q : List Int → List Int → Prop) (t8 : List (List Rect)) (t9 : Int) (t10 : Int) (l55 : List Int) (l56 : List Int) : Prop := w_geom_newGrid_0 F (fun t8 t9 t10 l55 l56 => g_geom_newGrid_c0_0 Q t8 t9 t10 l55 l56) F t8 t9 t10 l55 l56
def w_geom_newGrid (F : Nat) (a0 : List (List Rect)) (Q : List Int → List Int → Prop) : Prop := g_geom_newGrid_e a0 Q (n_geom_newGrid_0 F Q)
/-! ### sheetmetal/flat.width -/
def M_flat_width : Nat → Nat → Canon UU := fun b r => cond (Nat.beq b 0) ⟨[0, 1, 5, 12, 13, 14, 59, 60, 61, 62, 63, 64, 65, 68, 69, 70, 71, 72, 73, 74, 75, 78, 79, 80, 81, 82, 83, 84, 85, 86, 87, 88], [], [], [(.tmp 5, .int)], []⟩ (cond (Nat.beq b 2) ⟨[0, 1, 5, 8, 9], [], [], [], []⟩ (cond (Nat.beq b 4) ⟨[0, 1, 5, 8, 9, 48, 49, 50], [], [], [], []⟩ (⟨[], [], [], [], []⟩)))
def st_flat_width_0 (t0 : List Rect) (t1 : Int) (t5 : List Int) (t12 : List Rect) (t13 : Int) (t14 : Int) : ASt UU := ⟨fun u => cond (Nat.beq u 0) (.sl .rect t0) (cond (Nat.beq u 1) (.int .i64 t1) (cond (Nat.beq u 5) (.sl .int t5) (cond (Nat.beq u 12) (.sl .rect t12) (cond (Nat.beq u 13) (.int .i64 t13) (cond (Nat.beq u 14) (.int .i64 t14) (cond (Nat.beq u 59) (.raw undef) (cond (Nat.beq u 60) (.raw undef) (cond (Nat.beq u 61) (.raw undef) (cond (Nat.beq u 62) (.raw undef) (cond (Nat.beq u 63) (.raw undef) (cond (Nat.beq u 64) (.raw undef) (cond (Nat.beq u 65) (.raw undef) (cond (Nat.beq u 68) (.raw undef) (cond (Nat.beq u 69) (.raw undef) (cond (Nat.beq u 70) (.raw undef) (cond (Nat.beq u 71) (.raw undef) (cond (Nat.beq u 72) (.raw undef) (cond (Nat.beq u 73) (.raw undef) (cond (Nat.beq u 74) (.raw undef) (cond (Nat.beq u 75) (.raw undef) (cond (Nat.beq u 78) (.raw undef) (cond (Nat.beq u 79) (.raw undef) (cond (Nat.beq u 80) (.raw undef) (cond (Nat.beq u 81) (.raw undef) (cond (Nat.beq u 82) (.raw undef) (cond (Nat.beq u 83) (.raw undef) (cond (Nat.beq u 84) (.raw undef) (cond (Nat.beq u 85) (.raw undef) (cond (Nat.beq u 86) (.raw undef) (cond (Nat.beq u 87) (.raw undef) (cond (Nat.beq u 88) (.raw undef) (.any)))))))))))))))))))))))))))))))), fun u => none⟩
def st_flat_width_1 (t0 : List Rect) (t1 : Int) (t5 : List Int) (t8 : Int) (t9 : Int) : ASt UU := ⟨fun u => cond (Nat.beq u 0) (.sl .rect t0) (cond (Nat.beq u 1) (.int .i64 t1) (cond (Nat.beq u 5) (.sl .int t5) (cond (Nat.beq u 8) (.int .i64 t8) (cond (Nat.beq u 9) (.int .i64 t9) (.any))))), fun u => none⟩
def st_flat_width_2 (t0 : List Rect) (t1 : Int) (t5 : List Int) (t8 : Int) (t9 : Int) (t48 : List Rect) (t49 : Int) (t50 : Int) : ASt UU := ⟨fun u => cond (Nat.beq u 0) (.sl .rect t0) (cond (Nat.beq u 1) (.int .i64 t1) (cond (Nat.beq u 5) (.sl .int t5) (cond (Nat.beq u 8) (.int .i64 t8) (cond (Nat.beq u 9) (.int .i64 t9) (cond (Nat.beq u 48) (.sl .rect t48) (cond (Nat.beq u 49) (.int .i64 t49) (cond (Nat.beq u 50) (.int .i64 t50) (.any)))))))), fun u => none⟩
def g_flat_width_e (a0 : List Rect) (a1 : Int) (Q : Int → Prop) (i0 : List Rect → Int → List Int → List Rect → Int → Int → Prop) : Prop := i0 a0 a1 ([]) a0 (a0.length : Int) 0
def g_flat_width_s0 (rec : List Rect → Int → List Int → List Rect → Int → Int → Prop) (x0 : List Rect → Int → List Int → List Rect → Int → Int → Prop) (t0 : List Rect) (t1 : Int) (t5 : List Int) (t12 : List Rect) (t13 : Int) (t14 : Int) : Prop := cond (decide (t14 < t13)) ((let e0 := (t12.getD t14.toNat default); ((0 ≤ t14 ∧ t14 < t12.length) ∧ cond ((decide (e0.Y ≤ t1)) && (decide (t1 < (w64 (e0.Y + e0.H))))) (((pre_flat_insert t5 e0.X) ∧ (let r1 := (sp_flat_insert (sp_flat_insert t5 e0.X) (w64 (e0.X + e0.W))); ((pre_flat_insert (sp_flat_insert t5 e0.X) (w64 (e0.X + e0.W))) ∧ rec t0 t1 r1 t12 t13 (w64 (t14 + 1)))))) (rec t0 t1 t5 t12 t13 (w64 (t14 + 1)))))) (x0 t0 t1 t5 t12 t13 t14)
def g_flat_width_c0_0 (Q : Int → Prop) (t0 : List Rect) (t1 : Int) (t5 : List Int) (t12 : List Rect) (t13 : Int) (t14 : Int) (i1 : List Rect → Int → List Int → Int → Int → Prop) : Prop := i1 t0 t1 t5 0 1
def g_flat_width_s1 (rec : List Rect → Int → List Int → Int → Int → Prop) (x0 : List Rect → Int → List Int → Int → Int → Prop) (t0 : List Rect) (t1 : Int) (t5 : List Int) (t8 : Int) (t9 : Int) (i2 : List Rect → Int → List Int → Int → Int → List Rect → Int → Int → Prop) : Prop := cond (decide (t9 < (t5.length : Int))) (i2 t0 t1 t5 t8 t9 t0 (t0.length : Int) 0) (x0 t0 t1 t5 t8 t9)
def g_flat_width_c1_0 (Q : Int → Prop) (t0 : List Rect) (t1 : Int) (t5 : List Int) (t8 : Int) (t9 : Int) : Prop := Q t8
def g_flat_width_s2 (rec : List Rect → Int → List Int → Int → Int → List Rect → Int → Int → Prop) (x0 : List Rect → Int → List Int → Int → Int → List Rect → Int → Int → Prop) (t0 : List Rect) (t1 : Int) (t5 : List Int) (t8 : Int) (t9 : Int) (t48 : List Rect) (t49 : Int) (t50 : Int) : Prop := cond (decide (t50 < t49)) ((let e0 := (t48.getD t50.toNat default); ((0 ≤ t50 ∧ t50 < t48.length) ∧ cond (decide (e0.Y ≤ t1)) (cond (decide (t1 < (w64 (e0.Y + e0.H)))) ((let e1 := (t5.getD ((w64 (t9 - 1)).toNat) default); ((0 ≤ (w64 (t9 - 1)) ∧ (w64 (t9 - 1)) < t5.length) ∧ cond (decide (e0.X ≤ e1)) ((let e2 := (t5.getD ((w64 (t9 - 1)).toNat) default); ((0 ≤ (w64 (t9 - 1)) ∧ (w64 (t9 - 1)) < t5.length) ∧ cond (decide (e2 < (w64 (e0.X + e0.W)))) ((let e3 := (t5.getD t9.toNat default); ((0 ≤ t9 ∧ t9 < t5.length) ∧ (let e4 := (t5.getD ((w64 (t9 - 1)).toNat) default); ((0 ≤ (w64 (t9 - 1)) ∧ (w64 (t9 - 1)) < t5.length) ∧ x0 t0 t1 t5 (w64 (t8 + (w64 (e3 - e4)))) t9 t48 t49 t50))))) (rec t0 t1 t5 t8 t9 t48 t49 (w64 (t50 + 1)))))) (rec t0 t1 t5 t8 t9 t48 t49 (w64 (t50 + 1)))))) (rec t0 t1 t5 t8 t9 t48 t49 (w64 (t50 + 1)))) (rec t0 t1 t5 t8 t9 t48 t49 (w64 (t50 + 1)))))) (x0 t0 t1 t5 t8 t9 t48 t49 t50)
def g_flat_width_c2_0 (rec : List Rect → Int → List Int → Int → Int → Prop) (x0 : List Rect → Int → List Int → Int → Int → Prop) (t0 : List Rect) (t1 : Int) (t5 : List Int) (t8 : Int) (t9 : Int) (t48 : List Rect) (t49 : Int) (t50 : Int) : Prop := rec t0 t1 t5 t8 (w64 (t9 + 1))
def w_flat_width_2 (F : Nat) (x0 : List Rect → Int → List Int → Int → Int → List Rect → Int → Int → Prop) : Nat → List Rect → Int → List Int → Int → Int → List Rect → Int → Int → Prop
  | 0, _, _, _, _, _, _, _, _ => False
  | n + 1, t0, t1, t5, t8, t9, t48, t49, t50 => g_flat_width_s2 (w_flat_width_2 F x0 n) x0 t0 t1 t5 t8 t9 t48 t49 t50
def n_flat_width_2 (F : Nat) (rec : List Rect → Int → List Int → Int → Int → Prop) (x0 : List Rect → Int → List Int → Int → Int → Prop) (t0 : List Rect) (t1 : Int) (t5 : List Int) (t8 : Int) (t9 : Int) (t48 : List Rect) (t49 : Int) (t50 : Int) : Prop := w_flat_width_2 F (fun t0 t1 t5 t8 t9 t48 t49 t50 => g_flat_width_c2_0 rec x0 t0 t1 t5 t8 t9 t48 t49 t50) F t0 t1 t5 t8 t9 t48 t49 t50
def w_flat_width_1 (F : Nat) (x0 : List Rect → Int → List Int → Int → Int → Prop) : Nat → List Rect → Int → List Int → Int → Int → Prop
  | 0, _, _, _, _, _ => False
  | n + 1, t0, t1, t5, t8, t9 => g_flat_width_s1 (w_flat_width_1 F x0 n) x0 t0 t1 t5 t8 t9 (n_flat_width_2 F (w_flat_width_1 F x0 n) x0)
def n_flat_width_1 (F : Nat) (Q : Int → Prop) (t0 : List Rect) (t1 : Int) (t5 : List Int) (t8 : Int) (t9 : Int) : Prop := w_flat_width_1 F (fun t0 t1 t5 t8 t9 => g_flat_width_c1_0 Q t0 t1 t5 t8 t9) F t0 t1 t5 t8 t9
def w_flat_width_0 (F : Nat) (x0 : List Rect → Int → List Int → List Rect → Int → Int → Prop) : Nat → List Rect → Int → List Int → List Rect → Int → Int → Prop
  | 0, _, _, _, _, _, _ => False
  | n + 1, t0, t1, t5, t12, t13, t14 => g_flat_width_s0 (w_flat_width_0 F x0 n) x0 t0 t1 t5 t12 t13 t14
def n_flat_width_0 (F : Nat) (Q : Int → Prop) (t0 : List Rect) (t1 : Int) (t5 : List Int) (t12 : List Rect) (t13 : Int) (t14 : Int) : Prop := w_flat_width_0 F (fun t0 t1 t5 t12 t13 t14 => g_flat_width_c0_0 Q t0 t1 t5 t12 t13 t14 (n_flat_width_1 F Q)) F t0 t1 t5 t12 t13 t14
def w_flat_width (F : Nat) (a0 : List Rect) (a1 : Int) (Q : Int → Prop) : Prop := g_flat_width_e a0 a1 Q (n_flat_width_0 F Q)
end
end Go.Proofs.Ytohecfbnmmgimaa

namespace Go.Proofs.Ytohecfbnmmgimaa
open Go.Vm Go.RowKit
set_option linter.unusedVariables false
noncomputable section

def asc (l : List Int) : Prop := l.Pairwise (· < ·)
theorem mem_insR (l : List Int) (a x : Int) : x ∈ insR l a ↔ x = a ∨ x ∈ l := by
  induction l with
  | nil => simp [insR]
  | cons b l ih =>
    unfold insR
    split
    · rw [List.mem_cons, ih, List.mem_cons]
      constructor
      · rintro (h | h | h)
        · exact .inr (.inl h)
        · exact .inl h
        · exact .inr (.inr h)
      · rintro (h | h | h)
        · exact .inr (.inl h)
        · exact .inl h
        · exact .inr (.inr h)
    · split
      · rename_i h
        subst h
        simp
      · simp
theorem asc_insR (l : List Int) (a : Int) (h : asc l) : asc (insR l a) := by
  induction l with
  | nil => simp [insR, asc]
  | cons b l ih =>
    have h' := List.pairwise_cons.1 h
    unfold insR
    split
    · rename_i hb
      refine List.pairwise_cons.2 ⟨fun x hx => ?_, ih h'.2⟩
      rcases (mem_insR l a x).1 hx with rfl | hx
      · exact hb
      · exact h'.1 x hx
    · split
      · exact h
      · refine List.pairwise_cons.2 ⟨fun x hx => ?_, h⟩
        rcases List.mem_cons.1 hx with rfl | hx
        · omega
        · have := h'.1 x hx
          omega
theorem len_insR (l : List Int) (a : Int) : (insR l a).length ≤ l.length + 1 := by
  induction l with
  | nil => simp [insR]
  | cons b l ih =>
    unfold insR
    split
    · simp only [List.length_cons]; omega
    · split
      · simp only [List.length_cons]; omega
      · simp only [List.length_cons]; omega

/-- The strips between places, each times a number. -/
def strip (f : Int → Int) : List Int → Int
  | a :: b :: l => (b - a) * f a + strip f (b :: l)
  | _ => 0
theorem strip_snoc (f : Int → Int) : ∀ (l : List Int) (i : Nat), i + 1 < l.length → strip f (l.take (i + 2)) = strip f (l.take (i + 1)) + (l.getD (i + 1) default - l.getD i default) * f (l.getD i default) := by
  intro l
  induction l with
  | nil => intro i h; simp at h
  | cons a l ih =>
    intro i h
    cases l with
    | nil => simp at h
    | cons b l =>
      cases i with
      | zero => simp [strip]
      | succ i =>
        have := ih i (by simpa using h)
        simp only [List.take_succ_cons, List.getD_cons_succ] at this ⊢
        simp only [strip]
        rw [this]
        omega
theorem strip_bd0 (f : Int → Int) (B hi : Int) (hB : 0 ≤ B) : ∀ (l : List Int) (a : Int), asc (a :: l) → (∀ x ∈ a :: l, 0 ≤ f x ∧ f x ≤ B) → (∀ x ∈ a :: l, x ≤ hi) → 0 ≤ strip f (a :: l) ∧ strip f (a :: l) ≤ (hi - a) * B := by
  intro l
  induction l with
  | nil =>
    intro a _ _ h
    have := h a (List.mem_cons_self ..)
    exact ⟨Int.le_refl _, Int.mul_nonneg (by omega) hB⟩
  | cons b l ih =>
    intro a h1 h2 h3
    have h1' := List.pairwise_cons.1 h1
    have hab := h1'.1 b (List.mem_cons_self ..)
    obtain ⟨i1, i2⟩ := ih b h1'.2 (fun x hx => h2 x (List.mem_cons_of_mem _ hx)) (fun x hx => h3 x (List.mem_cons_of_mem _ hx))
    have hf := h2 a (List.mem_cons_self ..)
    have e1 : 0 ≤ (b - a) * f a := Int.mul_nonneg (by omega) hf.1
    have e2 : (b - a) * f a ≤ (b - a) * B := Int.mul_le_mul_of_nonneg_left hf.2 (by omega)
    have e3 : (hi - a) * B = (b - a) * B + (hi - b) * B := by rw [← Int.add_mul]; congr 1; omega
    show 0 ≤ (b - a) * f a + strip f (b :: l) ∧ (b - a) * f a + strip f (b :: l) ≤ _
    omega
theorem strip_bd (f : Int → Int) (B lo hi : Int) (hB : 0 ≤ B) (hlh : lo ≤ hi) (l : List Int) (h1 : asc l) (h2 : ∀ x ∈ l, 0 ≤ f x ∧ f x ≤ B) (h3 : ∀ x ∈ l, lo ≤ x ∧ x ≤ hi) : 0 ≤ strip f l ∧ strip f l ≤ (hi - lo) * B := by
  cases l with
  | nil => exact ⟨Int.le_refl _, Int.mul_nonneg (by omega) hB⟩
  | cons a l =>
    obtain ⟨i1, i2⟩ := strip_bd0 f B hi hB l a h1 h2 (fun x hx => (h3 x hx).2)
    refine ⟨i1, Int.le_trans i2 (Int.mul_le_mul_of_nonneg_right ?_ hB)⟩
    have := (h3 a (List.mem_cons_self ..)).1
    omega

/-- A sum over places one after another. -/
def S (f : Int → Int) (lo : Int) : Nat → Int
  | 0 => 0
  | n + 1 => S f lo n + f (lo + n)
theorem S_add (f : Int → Int) (lo : Int) (n : Nat) : ∀ m, S f lo (n + m) = S f lo n + S f (lo + n) m := by
  intro m
  induction m with
  | zero => simp [S]
  | succ m ih =>
    show S f lo (n + m) + f (lo + ((n + m : Nat) : Int)) = S f lo n + (S f (lo + n) m + f (lo + n + m))
    rw [ih, show lo + ((n + m : Nat) : Int) = lo + n + m by omega]
    omega
theorem S_congr {f g : Int → Int} {lo : Int} : ∀ {n : Nat}, (∀ x, lo ≤ x → x < lo + n → f x = g x) → S f lo n = S g lo n := by
  intro n
  induction n with
  | zero => intro _; rfl
  | succ n ih =>
    intro h
    show S f lo n + f (lo + n) = S g lo n + g (lo + n)
    rw [ih (fun x h1 h2 => h x h1 (by omega)), h (lo + n) (by omega) (by omega)]
theorem S_const {f : Int → Int} {lo c : Int} : ∀ {n : Nat}, (∀ x, lo ≤ x → x < lo + n → f x = c) → S f lo n = n * c := by
  intro n
  induction n with
  | zero => intro _; simp [S]
  | succ n ih =>
    intro h
    show S f lo n + f (lo + n) = _
    rw [ih (fun x h1 h2 => h x h1 (by omega)), h (lo + n) (by omega) (by omega)]
    have : ((n + 1 : Nat) : Int) * c = n * c + c := by rw [show ((n + 1 : Nat) : Int) = (n : Int) + 1 by omega, Int.add_mul, Int.one_mul]
    omega
theorem S_plus (f g : Int → Int) (lo : Int) : ∀ n, S (fun x => f x + g x) lo n = S f lo n + S g lo n := by
  intro n
  induction n with
  | zero => rfl
  | succ n ih =>
    show S _ lo n + (f (lo + n) + g (lo + n)) = S f lo n + f (lo + n) + (S g lo n + g (lo + n))
    rw [ih]
    omega
theorem S_zero (lo : Int) : ∀ n, S (fun _ => 0) lo n = 0 := by
  intro n
  induction n with
  | zero => rfl
  | succ n ih => show S _ lo n + 0 = 0; rw [ih]; rfl
theorem S_swap (f : Int → Int → Int) (a b : Int) (m : Nat) : ∀ n, S (fun x => S (fun y => f x y) b m) a n = S (fun y => S (fun x => f x y) a n) b m := by
  intro n
  induction n with
  | zero =>
    show 0 = S (fun y => 0) b m
    rw [S_zero]
  | succ n ih =>
    show S _ a n + S (fun y => f (a + n) y) b m = S (fun y => S (fun x => f x y) a n + f (a + n) y) b m
    rw [ih, S_plus]
theorem S_bd {f : Int → Int} {lo : Int} : ∀ {n : Nat}, (∀ x, 0 ≤ f x) → 0 ≤ S f lo n := by
  intro n
  induction n with
  | zero => intro _; exact Int.le_refl _
  | succ n ih =>
    intro h
    show 0 ≤ S f lo n + f (lo + n)
    have := ih h
    have := h (lo + n)
    omega

/-- Between places that a function does not change at, its sum is that of the strips. -/
theorem strip_S0 (f : Int → Int) : ∀ (l : List Int) (a : Int), asc (a :: l) → (∀ x y, a ≤ x → x ≤ y → (∀ e ∈ a :: l, e ≤ x ∨ y < e) → f x = f y) → ∃ n : Nat, S f a n = strip f (a :: l) ∧ (∀ e ∈ a :: l, e ≤ a + n) ∧ a + (n : Int) ∈ a :: l := by
  intro l
  induction l with
  | nil => intro a _ _; exact ⟨0, rfl, by simp, by simp⟩
  | cons b l ih =>
    intro a h1 h2
    have h1' := List.pairwise_cons.1 h1
    have hab := h1'.1 b (List.mem_cons_self ..)
    obtain ⟨n, e1, e2, e3⟩ := ih b h1'.2 (fun x y hx hxy hn => h2 x y (by omega) hxy (fun e he => by
      rcases List.mem_cons.1 he with rfl | he
      · exact .inl (by omega)
      · exact hn e he))
    have hk : ((b - a).toNat : Int) = b - a := by omega
    refine ⟨(b - a).toNat + n, ?_, fun e he => ?_, ?_⟩
    · rw [S_add, hk, show a + (b - a) = b by omega, e1]
      show _ = (b - a) * f a + strip f (b :: l)
      have h1b : asc (b :: l) := h1'.2
      rw [S_const (c := f a) (fun x h3 h4 => (h2 a x (by omega) h3 (fun e he => by
        rcases List.mem_cons.1 he with rfl | he
        · exact .inl (by omega)
        · have : b ≤ e := by
            rcases List.mem_cons.1 he with rfl | he
            · omega
            · have := (List.pairwise_cons.1 h1b).1 e he
              omega
          exact .inr (by omega))).symm), hk]
    · rcases List.mem_cons.1 he with rfl | he
      · omega
      · have := e2 e he
        omega
    · rw [show a + (((b - a).toNat + n : Nat) : Int) = b + n by omega]
      exact List.mem_cons_of_mem _ e3
theorem strip_S (f : Int → Int) (lo : Int) (N : Nat) (l : List Int) (h1 : asc l) (h3 : ∀ e ∈ l, lo ≤ e ∧ e ≤ lo + N) (h2 : ∀ x y, x ≤ y → (∀ e ∈ l, e ≤ x ∨ y < e) → f x = f y)
    (h4 : ∀ x, (∀ e ∈ l, x < e) ∨ (∀ e ∈ l, e ≤ x) → f x = 0) : S f lo N = strip f l := by
  cases l with
  | nil =>
    rw [S_const (c := 0) (fun x _ _ => h4 x (.inl (fun e he => by cases he)))]
    simp [strip]
  | cons a l =>
    obtain ⟨n, e1, e2, e3⟩ := strip_S0 f l a h1 (fun x y _ hxy hn => h2 x y hxy hn)
    have ha := h3 a (List.mem_cons_self ..)
    have hb := h3 _ e3
    have hk : ((a - lo).toNat : Int) = a - lo := by omega
    have hN : N = (a - lo).toNat + (n + (N - ((a - lo).toNat + n))) := by omega
    rw [hN, S_add, S_add, hk, show lo + (a - lo) = a by omega, e1]
    rw [S_const (c := 0) (lo := lo) (fun x h5 h6 => h4 x (.inl (fun e he => by
      rcases List.mem_cons.1 he with rfl | he
      · omega
      · have := (List.pairwise_cons.1 h1).1 e he
        omega)))]
    rw [S_const (c := 0) (lo := a + n) (fun x h5 h6 => h4 x (.inr (fun e he => by
      have := e2 e he
      omega)))]
    omega
theorem strip_congr {f g : Int → Int} : ∀ {l : List Int}, (∀ x ∈ l, f x = g x) → strip f l = strip g l := by
  intro l
  induction l with
  | nil => intro _; rfl
  | cons a l ih =>
    intro h
    cases l with
    | nil => rfl
    | cons b l =>
      show (b - a) * f a + strip f (b :: l) = (b - a) * g a + strip g (b :: l)
      rw [h a (List.mem_cons_self ..), ih (fun x hx => h x (List.mem_cons_of_mem _ hx))]

/-! ### the plane's unit cells -/
def b2i (b : Bool) : Int := bif b then 1 else 0
def NN : Nat := 2097152
/-- The sum over a line; the surface of a region. -/
def A1 (f : Int → Int) : Int := S f (-1048576) NN
def A (p : Int → Int → Bool) : Int := A1 fun x => A1 fun y => b2i (p x y)
theorem A_swap (p : Int → Int → Bool) : A p = A1 fun y => A1 fun x => b2i (p x y) := S_swap _ _ _ _ _
theorem A1_congr {f g : Int → Int} (h : ∀ x, f x = g x) : A1 f = A1 g := S_congr fun x _ _ => h x
theorem A_congr {p q : Int → Int → Bool} (h : ∀ x y, p x y = q x y) : A p = A q := A1_congr fun x => A1_congr fun y => by rw [h]
theorem A_split (p q : Int → Int → Bool) : A p = A (fun x y => p x y && q x y) + A (fun x y => p x y && !q x y) := by
  unfold A
  have : ∀ f g : Int → Int, A1 f + A1 g = A1 fun x => f x + g x := fun f g => (S_plus f g _ _).symm
  rw [this]
  refine A1_congr fun x => ?_
  rw [this]
  refine A1_congr fun y => ?_
  show b2i (p x y) = b2i (p x y && q x y) + b2i (p x y && !q x y)
  cases p x y <;> cases q x y <;> decide
theorem b2i_bd (b : Bool) : 0 ≤ b2i b ∧ b2i b ≤ 1 := by cases b <;> decide
theorem A_nonneg (p : Int → Int → Bool) : 0 ≤ A p := S_bd fun x => S_bd fun y => (b2i_bd _).1

/-! ### rectangles and their sides -/
theorem inB_same {r : Rect} {x y b : Int} (h1 : r.X ≤ x ∨ y < r.X) (h2 : r.X + r.W ≤ x ∨ y < r.X + r.W) (hxy : x ≤ y) : inB r x b = inB r y b := by
  unfold inB
  congr 1
  · exact decide_eq_decide.2 (by omega)
  · congr 1
    exact decide_eq_decide.2 (by omega)
theorem inB_sameY {r : Rect} {a x y : Int} (h1 : r.Y ≤ x ∨ y < r.Y) (h2 : r.Y + r.H ≤ x ∨ y < r.Y + r.H) (hxy : x ≤ y) : inB r a x = inB r a y := by
  unfold inB
  congr 2
  congr 1
  · exact decide_eq_decide.2 (by omega)
  · exact decide_eq_decide.2 (by omega)
theorem inB_iff (r : Rect) (a b : Int) : inB r a b = true ↔ r.X ≤ a ∧ a < r.X + r.W ∧ r.Y ≤ b ∧ b < r.Y + r.H := by
  unfold inB
  simp only [Bool.and_eq_true, decide_eq_true_eq]
theorem covB_iff (l : List Rect) (a b : Int) : covB l a b = true ↔ ∃ r ∈ l, inB r a b = true := List.any_eq_true
theorem covB_congr {l : List Rect} {a b c d : Int} (h : ∀ r ∈ l, inB r a b = inB r c d) : covB l a b = covB l c d := by
  rw [Bool.eq_iff_iff, covB_iff, covB_iff]
  constructor
  · rintro ⟨r, hr, h1⟩
    exact ⟨r, hr, by rw [← h r hr]; exact h1⟩
  · rintro ⟨r, hr, h1⟩
    exact ⟨r, hr, by rw [h r hr]; exact h1⟩
/-- Both sides of the rectangles (those that a line at y meets) are places of a list. -/
def hasX (l : List Rect) (y : Int) (xs : List Int) : Prop := ∀ r ∈ l, r.Y ≤ y → y < r.Y + r.H → r.X ∈ xs ∧ r.X + r.W ∈ xs
def hasY (l : List Rect) (ys : List Int) : Prop := ∀ r ∈ l, r.Y ∈ ys ∧ r.Y + r.H ∈ ys
def allX (l : List Rect) (xs : List Int) : Prop := ∀ r ∈ l, r.X ∈ xs ∧ r.X + r.W ∈ xs
def inM (xs : List Int) : Prop := ∀ e ∈ xs, -1048576 ≤ e ∧ e ≤ 1048576
theorem inB_out {r : Rect} {y : Int} (h : ¬ (r.Y ≤ y ∧ y < r.Y + r.H)) (x : Int) : inB r x y = false := by
  rw [← Bool.not_eq_true, inB_iff]
  omega
/-- The length of a region at a height. -/
theorem line_x (l : List Rect) (y : Int) (xs : List Int) (h1 : asc xs) (h2 : hasX l y xs) (h3 : inM xs) : A1 (fun x => b2i (covB l x y)) = strip (fun x => b2i (covB l x y)) xs := by
  refine strip_S _ _ _ xs h1 (fun e he => by have := h3 e he; unfold NN; omega) (fun x z hxz hn => ?_) (fun x hx => ?_)
  · congr 1
    refine covB_congr fun r hr => ?_
    by_cases hy : r.Y ≤ y ∧ y < r.Y + r.H
    · obtain ⟨e1, e2⟩ := h2 r hr hy.1 hy.2
      exact inB_same (hn _ e1) (hn _ e2) hxz
    · rw [inB_out hy, inB_out hy]
  · have : covB l x y = false := by
      rw [← Bool.not_eq_true, covB_iff]
      rintro ⟨r, hr, hi⟩
      rw [inB_iff] at hi
      obtain ⟨e1, e2⟩ := h2 r hr hi.2.2.1 hi.2.2.2
      rcases hx with hx | hx
      · have := hx _ e1
        omega
      · have := hx _ e2
        omega
    rw [this]
    rfl
/-- A region by strips between heights. -/
theorem strips_y (l : List Rect) (ys : List Int) (h1 : asc ys) (h2 : hasY l ys) (h3 : inM ys) : A (covB l) = strip (fun y => A1 fun x => b2i (covB l x y)) ys := by
  rw [A_swap]
  refine strip_S _ _ _ ys h1 (fun e he => by have := h3 e he; unfold NN; omega) (fun y z hyz hn => ?_) (fun y hy => ?_)
  · refine A1_congr fun x => ?_
    congr 1
    refine covB_congr fun r hr => ?_
    obtain ⟨e1, e2⟩ := h2 r hr
    exact inB_sameY (hn _ e1) (hn _ e2) hyz
  · refine (A1_congr (g := fun _ => 0) fun x => ?_).trans (S_zero _ _)
    have : covB l x y = false := by
      rw [← Bool.not_eq_true, covB_iff]
      rintro ⟨r, hr, hi⟩
      rw [inB_iff] at hi
      obtain ⟨e1, e2⟩ := h2 r hr
      rcases hy with hy | hy
      · have := hy _ e1
        omega
      · have := hy _ e2
        omega
    rw [this]
    rfl
/-- A region by the cells of a grid. -/
theorem grid_cells (l : List Rect) (xs ys : List Int) (h1 : asc xs) (h1' : asc ys) (h2 : allX l xs) (h2' : hasY l ys) (h3 : inM xs) (h3' : inM ys) :
    A (covB l) = strip (fun x => strip (fun y => b2i (covB l x y)) ys) xs := by
  have key : ∀ x, A1 (fun y => b2i (covB l x y)) = strip (fun y => b2i (covB l x y)) ys := fun x => by
    refine strip_S _ _ _ ys h1' (fun e he => by have := h3' e he; unfold NN; omega) (fun y z hyz hn => ?_) (fun y hy => ?_)
    · congr 1
      refine covB_congr fun r hr => ?_
      obtain ⟨e1, e2⟩ := h2' r hr
      exact inB_sameY (hn _ e1) (hn _ e2) hyz
    · have : covB l x y = false := by
        rw [← Bool.not_eq_true, covB_iff]
        rintro ⟨r, hr, hi⟩
        rw [inB_iff] at hi
        obtain ⟨e1, e2⟩ := h2' r hr
        rcases hy with hy | hy
        · have := hy _ e1
          omega
        · have := hy _ e2
          omega
      rw [this]
      rfl
  have : (fun x => strip (fun y => b2i (covB l x y)) ys) = fun x => A1 fun y => b2i (covB l x y) := funext fun x => (key x).symm
  rw [this]
  refine strip_S _ _ _ xs h1 (fun e he => by have := h3 e he; unfold NN; omega) (fun x z hxz hn => ?_) (fun x hx => ?_)
  · refine A1_congr fun y => ?_
    congr 1
    refine covB_congr fun r hr => ?_
    obtain ⟨e1, e2⟩ := h2 r hr
    exact inB_same (hn _ e1) (hn _ e2) hxz
  · refine (A1_congr (g := fun _ => 0) fun y => ?_).trans (S_zero _ _)
    have : covB l x y = false := by
      rw [← Bool.not_eq_true, covB_iff]
      rintro ⟨r, hr, hi⟩
      rw [inB_iff] at hi
      obtain ⟨e1, e2⟩ := h2 r hr
      rcases hx with hx | hx
      · have := hx _ e1
        omega
      · have := hx _ e2
        omega
    rw [this]
    rfl
theorem A1_bd {f : Int → Int} {B : Int} (hB : 0 ≤ B) (h : ∀ x, 0 ≤ f x ∧ f x ≤ B) : 0 ≤ A1 f ∧ A1 f ≤ 2097152 * B := by
  unfold A1
  have key : ∀ (n : Nat) (lo : Int), 0 ≤ S f lo n ∧ S f lo n ≤ n * B := by
    intro n
    induction n with
    | zero => intro lo; exact ⟨Int.le_refl _, by simp [S]⟩
    | succ n ih =>
      intro lo
      have h1 := ih lo
      have h2 := h (lo + n)
      have : ((n + 1 : Nat) : Int) * B = n * B + B := by rw [show ((n + 1 : Nat) : Int) = (n : Int) + 1 by omega, Int.add_mul, Int.one_mul]
      show 0 ≤ S f lo n + f (lo + n) ∧ S f lo n + f (lo + n) ≤ _
      omega
  have := key NN (-1048576)
  exact this
theorem A_bd (p : Int → Int → Bool) : 0 ≤ A p ∧ A p ≤ 4398046511104 := by
  have := A1_bd (f := fun x => A1 fun y => b2i (p x y)) (B := 2097152) (by omega) (fun x => by
    have := A1_bd (f := fun y => b2i (p x y)) (B := 1) (by omega) (fun y => b2i_bd _)
    omega)
  unfold A
  omega
end
end Go.Proofs.Ytohecfbnmmgimaa

namespace Go.Proofs.Ytohecfbnmmgimaa
open Go.Vm Go.RowKit
set_option linter.unusedVariables false
noncomputable section

def xsOf (l : List Rect) : List Int := l.flatMap fun r => [r.X, r.X + r.W]
def ysOf (l : List Rect) : List Int := l.flatMap fun r => [r.Y, r.Y + r.H]
theorem xsOf_len (l : List Rect) : (xsOf l).length = 2 * l.length := by
  unfold xsOf
  induction l with
  | nil => rfl
  | cons r l ih => rw [List.flatMap_cons, List.length_append, ih]; simp only [List.length_cons, List.length_nil]; omega
theorem ysOf_len (l : List Rect) : (ysOf l).length = 2 * l.length := by
  unfold ysOf
  induction l with
  | nil => rfl
  | cons r l ih => rw [List.flatMap_cons, List.length_append, ih]; simp only [List.length_cons, List.length_nil]; omega
def pre_geom_newGrid (L : List (List Rect)) : Prop := L.length ≤ 4 ∧ ∀ l ∈ L, l.length ≤ 48 ∧ ∀ r ∈ l, vR r = true
def sp_geom_newGrid (L : List (List Rect)) : List Int × List Int := (srt (xsOf L.flatten), srt (ysOf L.flatten))
theorem lp_ng1 (F : Nat) (x0 : List (List Rect) → Int → Int → List Rect → Int → Int → List Int → List Int → Prop) (L : List (List Rect)) (a b : Int) (l : List Rect) (hl : l.length ≤ 48) (hv : ∀ r ∈ l, vR r = true) : ∀ (n k : Nat) (p q : List Int), p.length ≤ 1000 + 2 * k → q.length ≤ 1000 + 2 * k → k ≤ l.length → l.length < k + n →
    x0 L a b l l.length l.length (p ++ xsOf (l.drop k)) (q ++ ysOf (l.drop k)) → w_geom_newGrid_1 F x0 n L a b l l.length k p q := by
  intro n
  induction n with
  | zero => intro k p q hp hq h1 h2; omega
  | succ n ih =>
    intro k p q hp hq h1 h2 e
    show g_geom_newGrid_s1 (w_geom_newGrid_1 F x0 n) x0 L a b l l.length k p q
    unfold g_geom_newGrid_s1
    by_cases h : k < l.length
    · rw [dec_t (by omega), cond_true, Int.toNat_natCast]
      have hm : l.getD k default ∈ l := by simp [List.getD, h]
      have hb := (vR_iff _).1 (hv _ hm)
      rw [drop_getD l k h] at e
      rw [w64_succ h (by omega)]
      revert e hb
      generalize l.getD k default = r
      intro e hb
      dsimp only
      rw [w64_of (n := r.X + r.W) (by omega) (by omega), w64_of (n := r.Y + r.H) (by omega) (by omega)]
      refine ⟨by omega, by simp only [List.length_cons, List.length_nil]; omega, by simp only [List.length_cons, List.length_nil]; omega, ?_⟩
      refine ih _ _ _ (by simp only [List.length_append, List.length_cons, List.length_nil]; omega) (by simp only [List.length_append, List.length_cons, List.length_nil]; omega) (by omega) (by omega) ?_
      rw [List.append_assoc, List.append_assoc]
      exact e
    · rw [dec_f (by omega), cond_false]
      have he : k = l.length := by omega
      rw [he] at e ⊢
      rw [List.drop_length] at e
      unfold xsOf ysOf at e
      simpa using e
theorem lp_ng0 (F : Nat) (hF : 1000 < F) (x0 : List (List Rect) → Int → Int → List Int → List Int → Prop) (L : List (List Rect)) (hL : pre_geom_newGrid L) : ∀ (n i : Nat) (p q : List Int), p.length ≤ 96 * i → q.length ≤ 96 * i → i ≤ L.length → L.length < i + n →
    x0 L L.length L.length (p ++ xsOf (L.drop i).flatten) (q ++ ysOf (L.drop i).flatten) → w_geom_newGrid_0 F x0 n L L.length i p q := by
  intro n
  induction n with
  | zero => intro i p q hp hq h1 h2; omega
  | succ n ih =>
    intro i p q hp hq h1 h2 e
    have hL4 := hL.1
    show g_geom_newGrid_s0 (w_geom_newGrid_0 F x0 n) x0 L L.length i p q (n_geom_newGrid_1 F (w_geom_newGrid_0 F x0 n) x0)
    unfold g_geom_newGrid_s0
    by_cases h : i < L.length
    · rw [dec_t (by omega), cond_true, Int.toNat_natCast]
      have hm : L.getD i default ∈ L := by simp [List.getD, h]
      obtain ⟨h48, hv⟩ := hL.2 _ hm
      rw [drop_getD L i h, List.flatten_cons] at e
      revert e h48 hv
      generalize L.getD i default = l
      intro e h48 hv
      dsimp only
      refine ⟨by omega, ?_⟩
      refine lp_ng1 F _ L _ _ l h48 hv F 0 p q (by omega) (by omega) (by omega) (by omega) ?_
      rw [List.drop_zero]
      show w_geom_newGrid_0 F x0 n L _ (w64 _) _ _
      rw [w64_succ h (by omega)]
      refine ih _ _ _ (by rw [List.length_append, xsOf_len]; omega) (by rw [List.length_append, ysOf_len]; omega) (by omega) (by omega) ?_
      have e1 : xsOf (l ++ (L.drop (i + 1)).flatten) = xsOf l ++ xsOf (L.drop (i + 1)).flatten := by unfold xsOf; rw [List.flatMap_append]
      have e2 : ysOf (l ++ (L.drop (i + 1)).flatten) = ysOf l ++ ysOf (L.drop (i + 1)).flatten := by unfold ysOf; rw [List.flatMap_append]
      rw [e1, e2, ← List.append_assoc, ← List.append_assoc] at e
      exact e
    · rw [dec_f (by omega), cond_false]
      have he : i = L.length := by omega
      rw [he] at e ⊢
      rw [List.drop_length] at e
      simpa [xsOf, ysOf] using e
theorem flat_len (L : List (List Rect)) (h : ∀ l ∈ L, l.length ≤ 48) : L.flatten.length ≤ 48 * L.length := by
  induction L with
  | nil => simp
  | cons l L ih =>
    have := ih (fun x hx => h x (List.mem_cons_of_mem _ hx))
    have := h l (List.mem_cons_self ..)
    rw [List.flatten_cons, List.length_append, List.length_cons]
    omega
theorem ok_geom_newGrid (a0 : List (List Rect)) (h : pre_geom_newGrid a0) : ∃ F, ∀ Q : List Int → List Int → Prop, Q ((sp_geom_newGrid a0).1) ((sp_geom_newGrid a0).2) → w_geom_newGrid F a0 Q := by
  refine ⟨1001, fun Q hQ => ?_⟩
  unfold w_geom_newGrid g_geom_newGrid_e n_geom_newGrid_0
  have h4 := h.1
  have hf := flat_len a0 (fun l hl => (h.2 l hl).1)
  refine lp_ng0 1001 (by omega) _ a0 h 1001 0 [] [] (by simp) (by simp) (by omega) (by omega) ?_
  rw [List.drop_zero, List.nil_append, List.nil_append]
  refine ⟨?_, ?_, hQ⟩
  · rw [xsOf_len]; omega
  · rw [ysOf_len]; omega

/-! ### the length at a height -/
def wx (y : Int) : List Int → List Rect → List Int
  | s, [] => s
  | s, r :: l => wx y (cond (decide (r.Y ≤ y) && decide (y < r.Y + r.H)) (insR (insR s r.X) (r.X + r.W)) s) l
theorem wx_mem (y : Int) : ∀ (l : List Rect) (s : List Int) (x : Int), x ∈ wx y s l ↔ x ∈ s ∨ ∃ r ∈ l, r.Y ≤ y ∧ y < r.Y + r.H ∧ (x = r.X ∨ x = r.X + r.W) := by
  intro l
  induction l with
  | nil => intro s x; simp [wx]
  | cons r l ih =>
    intro s x
    unfold wx
    rw [ih]
    by_cases h : r.Y ≤ y ∧ y < r.Y + r.H
    · rw [dec_t h.1, dec_t h.2, Bool.true_and, cond_true, mem_insR, mem_insR]
      constructor
      · rintro ((h1 | h1 | h1) | ⟨q, hq, h1⟩)
        · exact .inr ⟨r, List.mem_cons_self .., h.1, h.2, .inr h1⟩
        · exact .inr ⟨r, List.mem_cons_self .., h.1, h.2, .inl h1⟩
        · exact .inl h1
        · exact .inr ⟨q, List.mem_cons_of_mem _ hq, h1⟩
      · rintro (h1 | ⟨q, hq, h1⟩)
        · exact .inl (.inr (.inr h1))
        · rcases List.mem_cons.1 hq with rfl | hq
          · rcases h1.2.2 with h1 | h1
            · exact .inl (.inr (.inl h1))
            · exact .inl (.inl h1)
          · exact .inr ⟨q, hq, h1⟩
    · have : (decide (r.Y ≤ y) && decide (y < r.Y + r.H)) = false := by
        rw [← Bool.not_eq_true, Bool.and_eq_true, decide_eq_true_eq, decide_eq_true_eq]
        exact h
      rw [this, cond_false]
      constructor
      · rintro (h1 | ⟨q, hq, h1⟩)
        · exact .inl h1
        · exact .inr ⟨q, List.mem_cons_of_mem _ hq, h1⟩
      · rintro (h1 | ⟨q, hq, h1⟩)
        · exact .inl h1
        · rcases List.mem_cons.1 hq with rfl | hq
          · exact absurd ⟨h1.1, h1.2.1⟩ h
          · exact .inr ⟨q, hq, h1⟩
theorem wx_asc (y : Int) : ∀ (l : List Rect) (s : List Int), asc s → asc (wx y s l) := by
  intro l
  induction l with
  | nil => intro s h; exact h
  | cons r l ih =>
    intro s h
    unfold wx
    refine ih _ ?_
    cases (decide (r.Y ≤ y) && decide (y < r.Y + r.H))
    · exact h
    · exact asc_insR _ _ (asc_insR _ _ h)
def okR (l : List Rect) : Prop := l.length ≤ 10000 ∧ ∀ r ∈ l, vR r = true
def pre_flat_width (l : List Rect) (y : Int) : Prop := okR l
def sp_flat_width (l : List Rect) (y : Int) : Int := strip (fun x => b2i (covB l x y)) (wx y [] l)
theorem wx_in (l : List Rect) (y : Int) (h : ∀ r ∈ l, vR r = true) : inM (wx y [] l) := by
  intro e he
  rcases (wx_mem y l [] e).1 he with h1 | ⟨r, hr, _, _, h1⟩
  · cases h1
  · have := (vR_iff r).1 (h r hr)
    omega
theorem width_A1 (l : List Rect) (y : Int) (h : ∀ r ∈ l, vR r = true) : sp_flat_width l y = A1 (fun x => b2i (covB l x y)) :=
  (line_x l y _ (wx_asc y l [] List.Pairwise.nil) (fun r hr h1 h2 => ⟨(wx_mem y l [] _).2 (.inr ⟨r, hr, h1, h2, .inl rfl⟩), (wx_mem y l [] _).2 (.inr ⟨r, hr, h1, h2, .inr rfl⟩)⟩) (wx_in l y h)).symm
theorem lp_w0 (F : Nat) (x0 : List Rect → Int → List Int → List Rect → Int → Int → Prop) (t0 : List Rect) (y : Int) (l : List Rect) (hl : l.length ≤ 10000) (hv : ∀ r ∈ l, vR r = true) : ∀ (n k : Nat) (s : List Int), s.length ≤ 2 * k → k ≤ l.length → l.length < k + n →
    x0 t0 y (wx y s (l.drop k)) l l.length l.length → w_flat_width_0 F x0 n t0 y s l l.length k := by
  intro n
  induction n with
  | zero => intro k s hs h1 h2; omega
  | succ n ih =>
    intro k s hs h1 h2 e
    show g_flat_width_s0 (w_flat_width_0 F x0 n) x0 t0 y s l l.length k
    unfold g_flat_width_s0
    by_cases h : k < l.length
    · rw [dec_t (by omega), cond_true, Int.toNat_natCast]
      have hm : l.getD k default ∈ l := by simp [List.getD, h]
      have hb := (vR_iff _).1 (hv _ hm)
      rw [drop_getD l k h] at e
      rw [w64_succ h (by omega)]
      revert e hb
      generalize l.getD k default = r
      intro e hb
      dsimp only
      rw [w64_of (n := r.X + r.W) (by omega) (by omega), w64_of (n := r.Y + r.H) (by omega) (by omega)]
      refine ⟨by omega, ?_⟩
      unfold wx at e
      cases hc : (decide (r.Y ≤ y) && decide (y < r.Y + r.H))
      · rw [hc, cond_false] at e
        rw [cond_false]
        exact ih _ _ (by omega) (by omega) (by omega) e
      · rw [hc, cond_true] at e
        rw [cond_true]
        have l1 := len_insR s r.X
        have l2 := len_insR (insR s r.X) (r.X + r.W)
        unfold pre_flat_insert sp_flat_insert
        refine ⟨by omega, by omega, ?_⟩
        exact ih _ _ (by omega) (by omega) (by omega) e
    · rw [dec_f (by omega), cond_false]
      have he : k = l.length := by omega
      rw [he] at e ⊢
      rw [List.drop_length] at e
      exact e
theorem lp_w2 (F : Nat) (x0 : List Rect → Int → List Int → Int → Int → List Rect → Int → Int → Prop) (t0 : List Rect) (y : Int) (xs : List Int) (s : Int) (i : Nat) (l : List Rect) (hl : l.length ≤ 10000) (hv : ∀ r ∈ l, vR r = true)
    (hi : i + 1 < xs.length) (hx : xs.length ≤ 100000) (hM : inM xs) (hs : 0 ≤ s ∧ s ≤ 4294967296) : ∀ (n k : Nat), k ≤ l.length → l.length < k + n →
    (∀ j : Int, x0 t0 y xs (s + (cond (covB (l.drop k) (xs.getD i default) y) (xs.getD (i + 1) default - xs.getD i default) 0)) ((i + 1 : Nat) : Int) l l.length j) → w_flat_width_2 F x0 n t0 y xs s ((i + 1 : Nat) : Int) l l.length k := by
  intro n
  induction n with
  | zero => intro k h1 h2; omega
  | succ n ih =>
    intro k h1 h2 e
    show g_flat_width_s2 (w_flat_width_2 F x0 n) x0 t0 y xs s ((i + 1 : Nat) : Int) l l.length k
    unfold g_flat_width_s2
    by_cases h : k < l.length
    · have hw : w64 (((i + 1 : Nat) : Int) - 1) = (i : Int) := by rw [w64_of (by omega) (by omega)]; omega
      rw [dec_t (by omega), cond_true, hw, Int.toNat_natCast, Int.toNat_natCast, Int.toNat_natCast]
      have hm : l.getD k default ∈ l := by simp [List.getD, h]
      have hb := (vR_iff _).1 (hv _ hm)
      have m1 : xs.getD i default ∈ xs := by simp [List.getD, show i < xs.length by omega]
      have m2 : xs.getD (i + 1) default ∈ xs := by simp [List.getD, hi]
      have b1 := hM _ m1
      have b2 := hM _ m2
      rw [drop_getD l k h] at e
      unfold covB at e
      rw [List.any_cons] at e
      change ∀ j : Int, x0 t0 y xs (s + (cond (_ || covB (l.drop (k + 1)) _ _) _ _)) _ l l.length j at e
      rw [w64_succ h (by omega)]
      revert e hb ih b1 b2
      generalize l.getD k default = r
      generalize xs.getD i default = a
      generalize xs.getD (i + 1) default = b
      intro ih hb b1 b2 e
      dsimp only
      rw [w64_of (n := r.X + r.W) (by omega) (by omega), w64_of (n := r.Y + r.H) (by omega) (by omega), w64_of (n := b - a) (by omega) (by omega), w64_of (n := s + (b - a)) (by omega) (by omega)]
      unfold inB at e
      refine ⟨by omega, ?_⟩
      cases c3 : decide (r.Y ≤ y)
      · rw [cond_false]
        rw [c3, Bool.false_and, Bool.and_false, Bool.and_false, Bool.false_or] at e
        exact ih _ (by omega) (by omega) e
      · rw [cond_true]
        cases c4 : decide (y < r.Y + r.H)
        · rw [cond_false]
          rw [c3, c4, Bool.and_false, Bool.and_false, Bool.and_false, Bool.false_or] at e
          exact ih _ (by omega) (by omega) e
        · rw [cond_true]
          rw [c3, c4, Bool.and_true, Bool.and_true] at e
          refine ⟨by omega, ?_⟩
          cases c1 : decide (r.X ≤ a)
          · rw [cond_false]
            rw [c1, Bool.false_and, Bool.false_or] at e
            exact ih _ (by omega) (by omega) e
          · rw [cond_true]
            refine ⟨by omega, ?_⟩
            cases c2 : decide (a < r.X + r.W)
            · rw [cond_false]
              rw [c1, c2, Bool.and_false, Bool.false_or] at e
              exact ih _ (by omega) (by omega) e
            · rw [cond_true]
              rw [c1, c2, Bool.and_true, Bool.true_or, cond_true] at e
              exact ⟨by omega, by omega, e _⟩
    · rw [dec_f (by omega), cond_false]
      have he : k = l.length := by omega
      rw [he] at e ⊢
      have := e l.length
      rw [List.drop_length] at this
      simpa [covB] using this
theorem lp_w1 (F : Nat) (hF : 100000 < F) (x0 : List Rect → Int → List Int → Int → Int → Prop) (y : Int) (xs : List Int) (l : List Rect) (hl : l.length ≤ 10000) (hv : ∀ r ∈ l, vR r = true)
    (hx : xs.length ≤ 100000) (hM : inM xs) (ha : asc xs) : ∀ (n i : Nat), i + 1 ≤ xs.length → xs.length < i + 1 + n →
    (∀ j : Int, x0 l y xs (strip (fun x => b2i (covB l x y)) xs) j) → w_flat_width_1 F x0 n l y xs (strip (fun x => b2i (covB l x y)) (xs.take (i + 1))) ((i + 1 : Nat) : Int) := by
  intro n
  induction n with
  | zero => intro i h1 h2; omega
  | succ n ih =>
    intro i h1 h2 e
    show g_flat_width_s1 (w_flat_width_1 F x0 n) x0 l y xs _ ((i + 1 : Nat) : Int) (n_flat_width_2 F (w_flat_width_1 F x0 n) x0)
    unfold g_flat_width_s1
    by_cases h : i + 1 < xs.length
    · rw [dec_t (by omega), cond_true]
      have hsb := strip_bd (fun x => b2i (covB l x y)) 1 (-1048576) 1048576 (by omega) (by omega) (xs.take (i + 1)) (List.Pairwise.sublist (List.take_sublist ..) ha) (fun x _ => b2i_bd _) (fun x hx' => hM x (List.mem_of_mem_take hx'))
      refine lp_w2 F _ l y xs _ i l hl hv h hx hM (by omega) F 0 (by omega) (by omega) (fun j => ?_)
      rw [List.drop_zero]
      show w_flat_width_1 F x0 n l y xs _ (w64 _)
      rw [w64_succ h (by omega)]
      have hsn := strip_snoc (fun x => b2i (covB l x y)) xs i h
      have hc : (cond (covB l (xs.getD i default) y) (xs.getD (i + 1) default - xs.getD i default) 0) = (xs.getD (i + 1) default - xs.getD i default) * b2i (covB l (xs.getD i default) y) := by
        cases covB l (xs.getD i default) y
        · simp [b2i]
        · simp [b2i]
      rw [hc, ← hsn]
      exact ih (i + 1) (by omega) (by omega) e
    · rw [dec_f (by omega), cond_false]
      rw [List.take_of_length_le (by omega)]
      exact e _
theorem wx_len (y : Int) : ∀ (l : List Rect) (s : List Int), (wx y s l).length ≤ s.length + 2 * l.length := by
  intro l
  induction l with
  | nil => intro s; simp [wx]
  | cons r l ih =>
    intro s
    unfold wx
    have := ih (cond (decide (r.Y ≤ y) && decide (y < r.Y + r.H)) (insR (insR s r.X) (r.X + r.W)) s)
    have l1 := len_insR s r.X
    have l2 := len_insR (insR s r.X) (r.X + r.W)
    have : (cond (decide (r.Y ≤ y) && decide (y < r.Y + r.H)) (insR (insR s r.X) (r.X + r.W)) s).length ≤ s.length + 2 := by
      cases (decide (r.Y ≤ y) && decide (y < r.Y + r.H))
      · simp
      · simp only [cond_true]; omega
    simp only [List.length_cons]
    omega
theorem ok_flat_width (a0 : List Rect) (a1 : Int) (h : pre_flat_width a0 a1) : ∃ F, ∀ Q : Int → Prop, Q (sp_flat_width a0 a1) → w_flat_width F a0 a1 Q := by
  refine ⟨100001, fun Q hQ => ?_⟩
  obtain ⟨h1, h2⟩ := h
  unfold w_flat_width g_flat_width_e n_flat_width_0
  refine lp_w0 100001 _ a0 a1 a0 h1 h2 100001 0 [] (by simp) (by omega) (by omega) ?_
  rw [List.drop_zero]
  unfold g_flat_width_c0_0 n_flat_width_1
  unfold sp_flat_width at hQ
  have hlen := wx_len a1 a0 []
  rw [List.length_nil] at hlen
  have hM := wx_in a0 a1 h2
  have ha := wx_asc a1 a0 [] List.Pairwise.nil
  revert hQ hlen hM ha
  generalize wx a1 [] a0 = xs
  intro hQ hlen hM ha
  cases xs with
  | nil =>
    show g_flat_width_s1 _ _ _ _ _ _ _ _
    unfold g_flat_width_s1
    exact hQ
  | cons a xs =>
    have := lp_w1 100001 (by omega) (fun t0 t1 t5 t8 t9 => g_flat_width_c1_0 Q t0 t1 t5 t8 t9) a1 (a :: xs) a0 h1 h2 (by omega) hM ha 100001 0 (by simp) (by omega) (fun j => hQ)
    exact this
end
end Go.Proofs.Ytohecfbnmmgimaa

namespace Go.Proofs.Ytohecfbnmmgimaa
open Go.Vm Go.RowKit
set_option linter.unusedVariables false
noncomputable section
/-! ### sheetmetal/geom.Area -/
def M_geom_Area : Nat → Nat → Canon UU := fun b r => cond (Nat.beq b 0) ⟨[5, 6, 22, 23, 24], [5], [(.tmp 22, 67, .bools)], [], []⟩ (cond (Nat.beq b 2) ⟨[5, 6, 7, 22, 23, 24, 29, 30, 31], [5], [(.tmp 22, 67, .bools)], [], []⟩ (⟨[], [], [], [], []⟩))
def st_geom_Area_0 (t6 : Int) (t23 : Int) (t24 : Int) (c5_0 : List Int) (c5_1 : List Int) (l67 : List (List Bool)) : ASt UU := ⟨fun u => cond (Nat.beq u 5) (.ptr 5 0) (cond (Nat.beq u 6) (.int .i64 t6) (cond (Nat.beq u 22) (.osl 67 0) (cond (Nat.beq u 23) (.int .i64 t23) (cond (Nat.beq u 24) (.int .i64 t24) (.any))))), fun u => cond (Nat.beq u 67) (some (.row .bools 0 l67)) (cond (Nat.beq u 5) (some (.cells [.sl .int c5_0, .sl .int c5_1])) (none))⟩
def st_geom_Area_1 (t6 : Int) (t7 : Int) (t23 : Int) (t24 : Int) (t29 : List Bool) (t30 : Int) (t31 : Int) (c5_0 : List Int) (c5_1 : List Int) (l67 : List (List Bool)) : ASt UU := ⟨fun u => cond (Nat.beq u 5) (.ptr 5 0) (cond (Nat.beq u 6) (.int .i64 t6) (cond (Nat.beq u 7) (.int .i64 t7) (cond (Nat.beq u 22) (.osl 67 0) (cond (Nat.beq u 23) (.int .i64 t23) (cond (Nat.beq u 24) (.int .i64 t24) (cond (Nat.beq u 29) (.sl .bool t29) (cond (Nat.beq u 30) (.int .i64 t30) (cond (Nat.beq u 31) (.int .i64 t31) (.any))))))))), fun u => cond (Nat.beq u 67) (some (.row .bools 0 l67)) (cond (Nat.beq u 5) (some (.cells [.sl .int c5_0, .sl .int c5_1])) (none))⟩
def g_geom_Area_e (a0 : List Rect) (Q : Int → Int → Prop) (i0 : Int → Int → Int → List Int → List Int → List (List Bool) → Prop) : Prop := ((pre_geom_rects ([a0])) ∧ cond ((sp_geom_rects ([a0])) != 0) (Q 0 (sp_geom_rects ([a0]))) ((let r0 := (sp_geom_newGrid ([a0])); ((pre_geom_newGrid ([a0])) ∧ (let v1 := ((sp_geom_grid_covered r0.1 r0.2 a0).length : Int); ((pre_geom_grid_covered r0.1 r0.2 a0) ∧ i0 0 v1 0 r0.1 r0.2 (sp_geom_grid_covered r0.1 r0.2 a0)))))))
def g_geom_Area_s0 (rec : Int → Int → Int → List Int → List Int → List (List Bool) → Prop) (x0 : Int → Int → Int → List Int → List Int → List (List Bool) → Prop) (t6 : Int) (t23 : Int) (t24 : Int) (c5_0 : List Int) (c5_1 : List Int) (l67 : List (List Bool)) (i1 : Int → Int → Int → Int → List Bool → Int → Int → List Int → List Int → List (List Bool) → Prop) : Prop := cond (decide (t24 < t23)) (((0 ≤ t24 ∧ t24 < l67.length) ∧ i1 t6 t24 t23 t24 (l67.getD t24.toNat default) ((l67.getD t24.toNat default).length : Int) 0 c5_0 c5_1 l67)) (x0 t6 t23 t24 c5_0 c5_1 l67)
def g_geom_Area_c0_0 (Q : Int → Int → Prop) (t6 : Int) (t23 : Int) (t24 : Int) (c5_0 : List Int) (c5_1 : List Int) (l67 : List (List Bool)) : Prop := Q t6 0
def g_geom_Area_s1 (rec : Int → Int → Int → Int → List Bool → Int → Int → List Int → List Int → List (List Bool) → Prop) (x0 : Int → Int → Int → Int → List Bool → Int → Int → List Int → List Int → List (List Bool) → Prop) (t6 : Int) (t7 : Int) (t23 : Int) (t24 : Int) (t29 : List Bool) (t30 : Int) (t31 : Int) (c5_0 : List Int) (c5_1 : List Int) (l67 : List (List Bool)) : Prop := cond (decide (t31 < t30)) ((let e0 := (t29.getD t31.toNat default); ((0 ≤ t31 ∧ t31 < t29.length) ∧ cond e0 ((let e1 := (c5_0.getD ((w64 (t7 + 1)).toNat) default); ((0 ≤ (w64 (t7 + 1)) ∧ (w64 (t7 + 1)) < c5_0.length) ∧ (let e2 := (c5_0.getD t7.toNat default); ((0 ≤ t7 ∧ t7 < c5_0.length) ∧ (let e3 := (c5_1.getD ((w64 (t31 + 1)).toNat) default); ((0 ≤ (w64 (t31 + 1)) ∧ (w64 (t31 + 1)) < c5_1.length) ∧ (let e4 := (c5_1.getD t31.toNat default); ((0 ≤ t31 ∧ t31 < c5_1.length) ∧ (let v5 := w64 (t6 + (w64 ((w64 (e1 - e2)) * (w64 (e3 - e4))))); rec v5 t7 t23 t24 t29 t30 (w64 (t31 + 1)) c5_0 c5_1 l67)))))))))) (rec t6 t7 t23 t24 t29 t30 (w64 (t31 + 1)) c5_0 c5_1 l67)))) (x0 t6 t7 t23 t24 t29 t30 t31 c5_0 c5_1 l67)
def g_geom_Area_c1_0 (rec : Int → Int → Int → List Int → List Int → List (List Bool) → Prop) (x0 : Int → Int → Int → List Int → List Int → List (List Bool) → Prop) (t6 : Int) (t7 : Int) (t23 : Int) (t24 : Int) (t29 : List Bool) (t30 : Int) (t31 : Int) (c5_0 : List Int) (c5_1 : List Int) (l67 : List (List Bool)) : Prop := rec t6 t23 (w64 (t24 + 1)) c5_0 c5_1 l67
def w_geom_Area_1 (F : Nat) (x0 : Int → Int → Int → Int → List Bool → Int → Int → List Int → List Int → List (List Bool) → Prop) : Nat → Int → Int → Int → Int → List Bool → Int → Int → List Int → List Int → List (List Bool) → Prop
  | 0, _, _, _, _, _, _, _, _, _, _ => False
  | n + 1, t6, t7, t23, t24, t29, t30, t31, c5_0, c5_1, l67 => g_geom_Area_s1 (w_geom_Area_1 F x0 n) x0 t6 t7 t23 t24 t29 t30 t31 c5_0 c5_1 l67
def n_geom_Area_1 (F : Nat) (rec : Int → Int → Int → List Int → List Int → List (List Bool) → Prop) (x0 : Int → Int → Int → List Int → List Int → List (List Bool) → Prop) (t6 : Int) (t7 : Int) (t23 : Int) (t24 : Int) (t29 : List Bool) (t30 : Int) (t31 : Int) (c5_0 : List Int) (c5_1 : List Int) (l67 : List (List Bool)) : Prop := w_geom_Area_1 F (fun t6 t7 t23 t24 t29 t30 t31 c5_0 c5_1 l67 => g_geom_Area_c1_0 rec x0 t6 t7 t23 t24 t29 t30 t31 c5_0 c5_1 l67) F t6 t7 t23 t24 t29 t30 t31 c5_0 c5_1 l67
def w_geom_Area_0 (F : Nat) (x0 : Int → Int → Int → List Int → List Int → List (List Bool) → Prop) : Nat → Int → Int → Int → List Int → List Int → List (List Bool) → Prop
  | 0, _, _, _, _, _, _ => False
  | n + 1, t6, t23, t24, c5_0, c5_1, l67 => g_geom_Area_s0 (w_geom_Area_0 F x0 n) x0 t6 t23 t24 c5_0 c5_1 l67 (n_geom_Area_1 F (w_geom_Area_0 F x0 n) x0)
def n_geom_Area_0 (F : Nat) (Q : Int → Int → Prop) (t6 : Int) (t23 : Int) (t24 : Int) (c5_0 : List Int) (c5_1 : List Int) (l67 : List (List Bool)) : Prop := w_geom_Area_0 F (fun t6 t23 t24 c5_0 c5_1 l67 => g_geom_Area_c0_0 Q t6 t23 t24 c5_0 c5_1 l67) F t6 t23 t24 c5_0 c5_1 l67
def w_geom_Area (F : Nat) (a0 : List Rect) (Q : Int → Int → Prop) : Prop := g_geom_Area_e a0 Q (n_geom_Area_0 F Q)
/-! ### sheetmetal/flat.area -/
def M_flat_area : Nat → Nat → Canon UU := fun b r => cond (Nat.beq b 0) ⟨[0, 3, 8, 9, 10], [], [], [(.tmp 3, .int)], []⟩ (cond (Nat.beq b 2) ⟨[0, 3, 6, 7], [], [], [], []⟩ (⟨[], [], [], [], []⟩))
def st_flat_area_0 (t0 : List Rect) (t3 : List Int) (t8 : List Rect) (t9 : Int) (t10 : Int) : ASt UU := ⟨fun u => cond (Nat.beq u 0) (.sl .rect t0) (cond (Nat.beq u 3) (.sl .int t3) (cond (Nat.beq u 8) (.sl .rect t8) (cond (Nat.beq u 9) (.int .i64 t9) (cond (Nat.beq u 10) (.int .i64 t10) (.any))))), fun u => none⟩
def st_flat_area_1 (t0 : List Rect) (t3 : List Int) (t6 : Int) (t7 : Int) : ASt UU := ⟨fun u => cond (Nat.beq u 0) (.sl .rect t0) (cond (Nat.beq u 3) (.sl .int t3) (cond (Nat.beq u 6) (.int .i64 t6) (cond (Nat.beq u 7) (.int .i64 t7) (.any)))), fun u => none⟩
def g_flat_area_e (a0 : List Rect) (Q : Int → Prop) (i0 : List Rect → List Int → List Rect → Int → Int → Prop) : Prop := i0 a0 ([]) a0 (a0.length : Int) 0
def g_flat_area_s0 (rec : List Rect → List Int → List Rect → Int → Int → Prop) (x0 : List Rect → List Int → List Rect → Int → Int → Prop) (t0 : List Rect) (t3 : List Int) (t8 : List Rect) (t9 : Int) (t10 : Int) : Prop := cond (decide (t10 < t9)) ((let e0 := (t8.getD t10.toNat default); ((0 ≤ t10 ∧ t10 < t8.length) ∧ ((pre_flat_insert t3 e0.Y) ∧ (let r1 := (sp_flat_insert (sp_flat_insert t3 e0.Y) (w64 (e0.Y + e0.H))); ((pre_flat_insert (sp_flat_insert t3 e0.Y) (w64 (e0.Y + e0.H))) ∧ rec t0 r1 t8 t9 (w64 (t10 + 1)))))))) (x0 t0 t3 t8 t9 t10)
def g_flat_area_c0_0 (Q : Int → Prop) (t0 : List Rect) (t3 : List Int) (t8 : List Rect) (t9 : Int) (t10 : Int) (i1 : List Rect → List Int → Int → Int → Prop) : Prop := i1 t0 t3 0 1
def g_flat_area_s1 (rec : List Rect → List Int → Int → Int → Prop) (x0 : List Rect → List Int → Int → Int → Prop) (t0 : List Rect) (t3 : List Int) (t6 : Int) (t7 : Int) : Prop := cond (decide (t7 < (t3.length : Int))) ((let e0 := (t3.getD t7.toNat default); ((0 ≤ t7 ∧ t7 < t3.length) ∧ (let e1 := (t3.getD ((w64 (t7 - 1)).toNat) default); ((0 ≤ (w64 (t7 - 1)) ∧ (w64 (t7 - 1)) < t3.length) ∧ (let e2 := (t3.getD ((w64 (t7 - 1)).toNat) default); ((0 ≤ (w64 (t7 - 1)) ∧ (w64 (t7 - 1)) < t3.length) ∧ ((pre_flat_width t0 e2) ∧ (let v3 := w64 ((w64 (e0 - e1)) * (sp_flat_width t0 e2)); rec t0 t3 (w64 (t6 + v3)) (w64 (t7 + 1))))))))))) (x0 t0 t3 t6 t7)
def g_flat_area_c1_0 (Q : Int → Prop) (t0 : List Rect) (t3 : List Int) (t6 : Int) (t7 : Int) : Prop := Q t6
def w_flat_area_1 (F : Nat) (x0 : List Rect → List Int → Int → Int → Prop) : Nat → List Rect → List Int → Int → Int → Prop
  | 0, _, _, _, _ => False
  | n + 1, t0, t3, t6, t7 => g_flat_area_s1 (w_flat_area_1 F x0 n) x0 t0 t3 t6 t7
def n_flat_area_1 (F : Nat) (Q : Int → Prop) (t0 : List Rect) (t3 : List Int) (t6 : Int) (t7 : Int) : Prop := w_flat_area_1 F (fun t0 t3 t6 t7 => g_flat_area_c1_0 Q t0 t3 t6 t7) F t0 t3 t6 t7
def w_flat_area_0 (F : Nat) (x0 : List Rect → List Int → List Rect → Int → Int → Prop) : Nat → List Rect → List Int → List Rect → Int → Int → Prop
  | 0, _, _, _, _, _ => False
  | n + 1, t0, t3, t8, t9, t10 => g_flat_area_s0 (w_flat_area_0 F x0 n) x0 t0 t3 t8 t9 t10
def n_flat_area_0 (F : Nat) (Q : Int → Prop) (t0 : List Rect) (t3 : List Int) (t8 : List Rect) (t9 : Int) (t10 : Int) : Prop := w_flat_area_0 F (fun t0 t3 t8 t9 t10 => g_flat_area_c0_0 Q t0 t3 t8 t9 t10 (n_flat_area_1 F Q)) F t0 t3 t8 t9 t10
def w_flat_area (F : Nat) (a0 : List Rect) (Q : Int → Prop) : Prop := g_flat_area_e a0 Q (n_flat_area_0 F Q)
end
end Go.Proofs.Ytohecfbnmmgimaa

namespace Go.Proofs.Ytohecfbnmmgimaa
open Go.Vm Go.RowKit
set_option linter.unusedVariables false
noncomputable section

theorem mulBd {a b P Q : Int} (h1 : 0 ≤ a) (h2 : a ≤ P) (h3 : 0 ≤ b) (h4 : b ≤ Q) : 0 ≤ a * b ∧ a * b ≤ P * Q := ⟨Int.mul_nonneg h1 h3, Int.mul_le_mul h2 h4 h3 (by omega)⟩
theorem getD_memI {xs : List Int} {i : Nat} (h : i < xs.length) : xs.getD i default ∈ xs := by simp [List.getD, h]
theorem asc_getD {xs : List Int} (ha : asc xs) {i : Nat} (h : i + 1 < xs.length) : xs.getD i default < xs.getD (i + 1) default := by
  have := List.pairwise_iff_getElem.1 ha i (i + 1) (by omega) h (by omega)
  simpa [List.getD, h, show i < xs.length by omega] using this

/-! ### by the cells of a grid -/
def pre_geom_Area (l : List Rect) : Prop := True
def sp_geom_Area (l : List Rect) : Int × Int := cond (sp_geom_rects [l] != 0) (0, sp_geom_rects [l]) (A (covB l), 0)
theorem lp_a1 (F : Nat) (x0 : Int → Int → Int → Int → List Bool → Int → Int → List Int → List Int → List (List Bool) → Prop) (f : Int → Bool) (s0 : Int) (i : Nat) (a b : Int) (row : List Bool) (xs ys : List Int) (L : List (List Bool)) (m : Nat) (hm : m + 1 = ys.length) (hrl : row.length = m)
    (hrow : ∀ j, j < m → row.getD j default = f (ys.getD j default)) (hi : i + 1 < xs.length) (hx : xs.length ≤ 1000) (hy : ys.length ≤ 1000) (ax : asc xs) (ay : asc ys) (mx : inM xs) (my : inM ys) (hs : 0 ≤ s0 ∧ s0 ≤ 4398046511104) : ∀ (n j : Nat), j ≤ m → m < j + n →
    x0 (s0 + (xs.getD (i + 1) default - xs.getD i default) * strip (fun y => b2i (f y)) ys) i a b row m m xs ys L →
    w_geom_Area_1 F x0 n (s0 + (xs.getD (i + 1) default - xs.getD i default) * strip (fun y => b2i (f y)) (ys.take (j + 1))) i a b row m j xs ys L := by
  intro n
  induction n with
  | zero => intro j h1 h2; omega
  | succ n ih =>
    intro j h1 h2 e
    show g_geom_Area_s1 (w_geom_Area_1 F x0 n) x0 _ i a b row m j xs ys L
    unfold g_geom_Area_s1
    by_cases h : j < m
    · have hw1 : w64 ((j : Int) + 1) = ((j + 1 : Nat) : Int) := w64_succ h (show m ≤ 1000000000 by omega)
      have hw2 : w64 ((i : Int) + 1) = ((i + 1 : Nat) : Int) := w64_succ (n := xs.length) (by omega) (by omega)
      rw [dec_t (by omega), cond_true, hw1, hw2, Int.toNat_natCast, Int.toNat_natCast, Int.toNat_natCast, Int.toNat_natCast, hrow j h]
      have hj : j + 1 < ys.length := by omega
      have hsn := strip_snoc (fun y => b2i (f y)) ys j hj
      have hnx := ih (j + 1) (by omega) (by omega) e
      rw [hsn] at hnx
      have sb := strip_bd (fun y => b2i (f y)) 1 (-1048576) 1048576 (by omega) (by omega) (ys.take (j + 1)) (List.Pairwise.sublist (List.take_sublist ..) ay) (fun x _ => b2i_bd _) (fun x hx' => my x (List.mem_of_mem_take hx'))
      have p1 := mx _ (getD_memI (show i < xs.length by omega))
      have p2 := mx _ (getD_memI hi)
      have p3 := my _ (getD_memI (show j < ys.length by omega))
      have p4 := my _ (getD_memI hj)
      have q1 := asc_getD ax hi
      have q2 := asc_getD ay hj
      revert hnx sb p1 p2 p3 p4 q1 q2
      generalize strip (fun y => b2i (f y)) (ys.take (j + 1)) = s
      generalize xs.getD (i + 1) default = x2
      generalize xs.getD i default = x1
      generalize ys.getD (j + 1) default = y2
      generalize ys.getD j default = y1
      intro hnx sb p1 p2 p3 p4 q1 q2
      dsimp only
      have d1 := mulBd (a := x2 - x1) (b := s) (P := 2097152) (Q := 2097152) (by omega) (by omega) (by omega) (by omega)
      have d2 := mulBd (a := x2 - x1) (b := y2 - y1) (P := 2097152) (Q := 2097152) (by omega) (by omega) (by omega) (by omega)
      refine ⟨by rw [hrl]; omega, ?_⟩
      cases hf : f y1
      · rw [cond_false]
        rw [hf] at hnx
        simp only [b2i, cond_false, Int.mul_zero, Int.add_zero] at hnx
        exact hnx
      · rw [cond_true]
        rw [hf] at hnx
        simp only [b2i, cond_true, Int.mul_one] at hnx
        rw [w64_of (n := x2 - x1) (by omega) (by omega), w64_of (n := y2 - y1) (by omega) (by omega), w64_of (n := (x2 - x1) * (y2 - y1)) (by omega) (by omega), w64_of (n := s0 + (x2 - x1) * s + (x2 - x1) * (y2 - y1)) (by omega) (by omega)]
        refine ⟨by omega, by omega, by omega, by omega, ?_⟩
        rw [Int.mul_add, ← Int.add_assoc] at hnx
        exact hnx
    · rw [dec_f (by omega), cond_false]
      have he : j = m := by omega
      subst he
      rw [List.take_of_length_le (by omega)]
      exact e
theorem lp_a0 (F : Nat) (hF : 1000 < F) (x0 : Int → Int → Int → List Int → List Int → List (List Bool) → Prop) (l : List Rect) (xs ys : List Int) (k m : Nat) (hk : k + 1 = xs.length) (hm : m + 1 = ys.length) (hx : xs.length ≤ 1000) (hy : ys.length ≤ 1000) (ax : asc xs) (ay : asc ys) (mx : inM xs) (my : inM ys) : ∀ (n i : Nat), i ≤ k → k < i + n →
    x0 (strip (fun x => strip (fun y => b2i (covB l x y)) ys) xs) k k xs ys (sp_geom_grid_covered xs ys l) →
    w_geom_Area_0 F x0 n (strip (fun x => strip (fun y => b2i (covB l x y)) ys) (xs.take (i + 1))) k i xs ys (sp_geom_grid_covered xs ys l) := by
  intro n
  induction n with
  | zero => intro i h1 h2; omega
  | succ n ih =>
    intro i h1 h2 e
    show g_geom_Area_s0 (w_geom_Area_0 F x0 n) x0 _ k i xs ys _ (n_geom_Area_1 F (w_geom_Area_0 F x0 n) x0)
    unfold g_geom_Area_s0
    by_cases h : i < k
    · have hi : i + 1 < xs.length := by omega
      have hL : (sp_geom_grid_covered xs ys l).length = k := by unfold sp_geom_grid_covered; simp; omega
      rw [dec_t (by omega), cond_true, Int.toNat_natCast]
      refine ⟨by rw [hL]; omega, ?_⟩
      have hrow : (sp_geom_grid_covered xs ys l).getD i default = ys.dropLast.map fun b => covB l (xs.getD i default) b := by
        unfold sp_geom_grid_covered
        simp [List.getD, show i < xs.length - 1 by omega, show i < xs.length by omega]
      have hrl : ((sp_geom_grid_covered xs ys l).getD i default).length = m := by rw [hrow]; simp; omega
      rw [hrl]
      have sb := strip_bd (fun x => strip (fun y => b2i (covB l x y)) ys) 2097152 (-1048576) 1048576 (by omega) (by omega) (xs.take (i + 1)) (List.Pairwise.sublist (List.take_sublist ..) ax) (fun x _ => by
        have := strip_bd (fun y => b2i (covB l x y)) 1 (-1048576) 1048576 (by omega) (by omega) ys ay (fun x _ => b2i_bd _) my
        omega) (fun x hx' => mx x (List.mem_of_mem_take hx'))
      have hsn := strip_snoc (fun x => strip (fun y => b2i (covB l x y)) ys) xs i hi
      have hnx := ih (i + 1) (by omega) (by omega) e
      rw [hsn] at hnx
      have := lp_a1 F (fun t6 t7 t23 t24 t29 t30 t31 c5_0 c5_1 l67 => g_geom_Area_c1_0 (w_geom_Area_0 F x0 n) x0 t6 t7 t23 t24 t29 t30 t31 c5_0 c5_1 l67) (covB l (xs.getD i default)) (strip (fun x => strip (fun y => b2i (covB l x y)) ys) (xs.take (i + 1))) i k i ((sp_geom_grid_covered xs ys l).getD i default) xs ys (sp_geom_grid_covered xs ys l) m hm hrl (fun j hj => by
        rw [hrow]
        simp [List.getD, show j < ys.length - 1 by omega, show j < ys.length by omega]) hi hx hy ax ay mx my (by omega) F 0 (by omega) (by omega) (by
        show w_geom_Area_0 F x0 n _ _ (w64 _) _ _ _
        rw [w64_succ h (by omega)]
        exact hnx)
      have hz : strip (fun y => b2i (covB l (xs.getD i default) y)) (ys.take (0 + 1)) = 0 := by
        cases ys with
        | nil => rfl
        | cons a ys => rfl
      rw [hz, Int.mul_zero, Int.add_zero] at this
      exact this
    · rw [dec_f (by omega), cond_false]
      have he : i = k := by omega
      subst he
      rw [List.take_of_length_le (by omega)]
      exact e
theorem srt_asc' (l : List Int) : asc (srt l) := by
  unfold srt
  induction l with
  | nil => exact List.Pairwise.nil
  | cons a l ih => exact asc_insR _ _ ih
theorem srt_mem' (l : List Int) (x : Int) : x ∈ srt l ↔ x ∈ l := by
  unfold srt
  induction l with
  | nil => simp
  | cons a l ih => rw [List.foldr_cons, mem_insR, ih, List.mem_cons]
theorem srt_len (l : List Int) : (srt l).length ≤ l.length := by
  unfold srt
  induction l with
  | nil => simp
  | cons a l ih =>
    have := len_insR (l.foldr (fun a s => insR s a) []) a
    simp only [List.foldr_cons, List.length_cons]
    omega
theorem xsOf_mem (l : List Rect) (x : Int) : x ∈ xsOf l ↔ ∃ r ∈ l, x = r.X ∨ x = r.X + r.W := by
  unfold xsOf
  rw [List.mem_flatMap]
  simp
theorem ysOf_mem (l : List Rect) (x : Int) : x ∈ ysOf l ↔ ∃ r ∈ l, x = r.Y ∨ x = r.Y + r.H := by
  unfold ysOf
  rw [List.mem_flatMap]
  simp
theorem rects_ok {l : List Rect} (h : sp_geom_rects [l] = 0) : l.length ≤ 48 ∧ ∀ r ∈ l, vR r = true := by
  unfold sp_geom_rects at h
  simp only [List.any_cons, List.any_nil, Bool.or_false, List.all_cons, List.all_nil, Bool.and_true] at h
  cases h1 : decide (48 < l.length)
  · rw [h1, cond_false] at h
    have := of_decide_eq_false h1
    cases h2 : l.all vR
    · rw [h2] at h
      cases h
    · exact ⟨by omega, fun r hr => List.all_eq_true.1 h2 r hr⟩
  · rw [h1, cond_true] at h
    cases h
theorem ok_geom_Area (a0 : List Rect) (h : pre_geom_Area a0) : ∃ F, ∀ Q : Int → Int → Prop, Q ((sp_geom_Area a0).1) ((sp_geom_Area a0).2) → w_geom_Area F a0 Q := by
  refine ⟨1001, fun Q hQ => ?_⟩
  unfold w_geom_Area g_geom_Area_e n_geom_Area_0
  unfold sp_geom_Area at hQ
  refine ⟨by unfold pre_geom_rects sh; simp, ?_⟩
  cases hr : (sp_geom_rects [a0] != 0)
  · rw [hr, cond_false] at hQ
    rw [cond_false]
    obtain ⟨h48, hv⟩ := rects_ok (by simpa using hr)
    have hng : sp_geom_newGrid [a0] = (srt (xsOf a0), srt (ysOf a0)) := by unfold sp_geom_newGrid; simp
    rw [hng]
    dsimp only
    have lx := srt_len (xsOf a0)
    have ly := srt_len (ysOf a0)
    rw [xsOf_len] at lx
    rw [ysOf_len] at ly
    have hX : allX a0 (srt (xsOf a0)) := fun r hr => ⟨(srt_mem' _ _).2 ((xsOf_mem _ _).2 ⟨r, hr, .inl rfl⟩), (srt_mem' _ _).2 ((xsOf_mem _ _).2 ⟨r, hr, .inr rfl⟩)⟩
    have hY : hasY a0 (srt (ysOf a0)) := fun r hr => ⟨(srt_mem' _ _).2 ((ysOf_mem _ _).2 ⟨r, hr, .inl rfl⟩), (srt_mem' _ _).2 ((ysOf_mem _ _).2 ⟨r, hr, .inr rfl⟩)⟩
    have mx : inM (srt (xsOf a0)) := fun e he => by
      obtain ⟨r, hr, h1⟩ := (xsOf_mem _ _).1 ((srt_mem' _ _).1 he)
      have := (vR_iff r).1 (hv r hr)
      omega
    have my : inM (srt (ysOf a0)) := fun e he => by
      obtain ⟨r, hr, h1⟩ := (ysOf_mem _ _).1 ((srt_mem' _ _).1 he)
      have := (vR_iff r).1 (hv r hr)
      omega
    have hA := grid_cells a0 _ _ (srt_asc' (xsOf a0)) (srt_asc' (ysOf a0)) hX hY mx my
    rw [hA] at hQ
    refine ⟨⟨by simp, fun l hl => by rw [List.mem_singleton] at hl; subst hl; exact ⟨h48, hv⟩⟩, ⟨by unfold sh; omega, by unfold sh; omega, fun hne e => ?_, by unfold sh; omega, hv⟩, ?_⟩
    · apply hne
      cases a0 with
      | nil => rfl
      | cons r l =>
        have := (hY r (List.mem_cons_self ..)).1
        rw [e] at this
        cases this
    · cases hxs : srt (xsOf a0) with
      | nil =>
        rw [hxs] at hQ
        have hc : sp_geom_grid_covered [] (srt (ysOf a0)) a0 = [] := rfl
        rw [hc]
        show g_geom_Area_s0 _ _ _ _ _ _ _ _ _
        unfold g_geom_Area_s0
        exact hQ
      | cons x xs =>
        have hyl : 0 < (srt (ysOf a0)).length := by
          cases a0 with
          | nil => cases hxs
          | cons r l => exact List.length_pos_of_mem (hY r (List.mem_cons_self ..)).1
        have hxl : 0 < (srt (xsOf a0)).length := by rw [hxs]; simp
        have := lp_a0 1001 (by omega) (fun t6 t23 t24 c5_0 c5_1 l67 => g_geom_Area_c0_0 Q t6 t23 t24 c5_0 c5_1 l67) a0 (srt (xsOf a0)) (srt (ysOf a0)) ((srt (xsOf a0)).length - 1) ((srt (ysOf a0)).length - 1) (by omega) (by omega) (by omega) (by omega) (srt_asc' _) (srt_asc' _) mx my 1001 0 (by omega) (by omega) hQ
        have hL : ((sp_geom_grid_covered (srt (xsOf a0)) (srt (ysOf a0)) a0).length : Int) = (((srt (xsOf a0)).length - 1 : Nat) : Int) := by unfold sp_geom_grid_covered; simp
        rw [hxs] at this hL
        rw [hL]
        exact this
  · rw [hr, cond_true] at hQ
    rw [cond_true]
    exact hQ

/-! ### by strips between heights -/
def yx : List Int → List Rect → List Int
  | s, [] => s
  | s, r :: l => yx (insR (insR s r.Y) (r.Y + r.H)) l
theorem yx_mem : ∀ (l : List Rect) (s : List Int) (x : Int), x ∈ yx s l ↔ x ∈ s ∨ ∃ r ∈ l, x = r.Y ∨ x = r.Y + r.H := by
  intro l
  induction l with
  | nil => intro s x; simp [yx]
  | cons r l ih =>
    intro s x
    unfold yx
    rw [ih, mem_insR, mem_insR]
    constructor
    · rintro ((h1 | h1 | h1) | ⟨q, hq, h1⟩)
      · exact .inr ⟨r, List.mem_cons_self .., .inr h1⟩
      · exact .inr ⟨r, List.mem_cons_self .., .inl h1⟩
      · exact .inl h1
      · exact .inr ⟨q, List.mem_cons_of_mem _ hq, h1⟩
    · rintro (h1 | ⟨q, hq, h1⟩)
      · exact .inl (.inr (.inr h1))
      · rcases List.mem_cons.1 hq with rfl | hq
        · rcases h1 with h1 | h1
          · exact .inl (.inr (.inl h1))
          · exact .inl (.inl h1)
        · exact .inr ⟨q, hq, h1⟩
theorem yx_asc : ∀ (l : List Rect) (s : List Int), asc s → asc (yx s l) := by
  intro l
  induction l with
  | nil => intro s h; exact h
  | cons r l ih => intro s h; exact ih _ (asc_insR _ _ (asc_insR _ _ h))
theorem yx_len : ∀ (l : List Rect) (s : List Int), (yx s l).length ≤ s.length + 2 * l.length := by
  intro l
  induction l with
  | nil => intro s; simp [yx]
  | cons r l ih =>
    intro s
    unfold yx
    have := ih (insR (insR s r.Y) (r.Y + r.H))
    have l1 := len_insR s r.Y
    have l2 := len_insR (insR s r.Y) (r.Y + r.H)
    simp only [List.length_cons]
    omega
def pre_flat_area (l : List Rect) : Prop := okR l
def sp_flat_area (l : List Rect) : Int := A (covB l)
theorem lp_f0 (F : Nat) (x0 : List Rect → List Int → List Rect → Int → Int → Prop) (t0 : List Rect) (l : List Rect) (hl : l.length ≤ 10000) (hv : ∀ r ∈ l, vR r = true) : ∀ (n k : Nat) (s : List Int), s.length ≤ 2 * k → k ≤ l.length → l.length < k + n →
    x0 t0 (yx s (l.drop k)) l l.length l.length → w_flat_area_0 F x0 n t0 s l l.length k := by
  intro n
  induction n with
  | zero => intro k s hs h1 h2; omega
  | succ n ih =>
    intro k s hs h1 h2 e
    show g_flat_area_s0 (w_flat_area_0 F x0 n) x0 t0 s l l.length k
    unfold g_flat_area_s0
    by_cases h : k < l.length
    · rw [dec_t (by omega), cond_true, Int.toNat_natCast]
      have hm : l.getD k default ∈ l := by simp [List.getD, h]
      have hb := (vR_iff _).1 (hv _ hm)
      rw [drop_getD l k h] at e
      rw [w64_succ h (by omega)]
      revert e hb
      generalize l.getD k default = r
      intro e hb
      dsimp only
      rw [w64_of (n := r.Y + r.H) (by omega) (by omega)]
      have l1 := len_insR s r.Y
      have l2 := len_insR (insR s r.Y) (r.Y + r.H)
      unfold pre_flat_insert sp_flat_insert
      refine ⟨by omega, by omega, by omega, ?_⟩
      exact ih _ _ (by omega) (by omega) (by omega) e
    · rw [dec_f (by omega), cond_false]
      have he : k = l.length := by omega
      rw [he] at e ⊢
      rw [List.drop_length] at e
      exact e
theorem width_bd (l : List Rect) (y : Int) (hv : ∀ r ∈ l, vR r = true) : 0 ≤ sp_flat_width l y ∧ sp_flat_width l y ≤ 2097152 := by
  rw [width_A1 l y hv]
  have := A1_bd (f := fun x => b2i (covB l x y)) (B := 1) (by omega) (fun x => b2i_bd _)
  omega
theorem lp_f1 (F : Nat) (x0 : List Rect → List Int → Int → Int → Prop) (l : List Rect) (hl : okR l) (ys : List Int) (hy : ys.length ≤ 100000) (my : inM ys) (ay : asc ys) : ∀ (n i : Nat), i + 1 ≤ ys.length → ys.length < i + 1 + n →
    (∀ j : Int, x0 l ys (strip (sp_flat_width l) ys) j) → w_flat_area_1 F x0 n l ys (strip (sp_flat_width l) (ys.take (i + 1))) ((i + 1 : Nat) : Int) := by
  intro n
  induction n with
  | zero => intro i h1 h2; omega
  | succ n ih =>
    intro i h1 h2 e
    show g_flat_area_s1 (w_flat_area_1 F x0 n) x0 l ys _ ((i + 1 : Nat) : Int)
    unfold g_flat_area_s1
    by_cases h : i + 1 < ys.length
    · have hw : w64 (((i + 1 : Nat) : Int) - 1) = (i : Int) := by rw [w64_of (by omega) (by omega)]; omega
      rw [dec_t (by omega), cond_true, hw, w64_succ h (by omega), Int.toNat_natCast, Int.toNat_natCast]
      have sb := strip_bd (sp_flat_width l) 2097152 (-1048576) 1048576 (by omega) (by omega) (ys.take (i + 1)) (List.Pairwise.sublist (List.take_sublist ..) ay) (fun x _ => width_bd l x hl.2) (fun x hx' => my x (List.mem_of_mem_take hx'))
      have hsn := strip_snoc (sp_flat_width l) ys i h
      have hnx := ih (i + 1) (by omega) (by omega) e
      rw [hsn] at hnx
      have p3 := my _ (getD_memI (show i < ys.length by omega))
      have p4 := my _ (getD_memI h)
      have q2 := asc_getD ay h
      have wb := width_bd l (ys.getD i default) hl.2
      revert hnx sb p3 p4 q2 wb
      generalize strip (sp_flat_width l) (ys.take (i + 1)) = s
      generalize ys.getD (i + 1) default = y2
      generalize ys.getD i default = y1
      intro sb hnx p3 p4 q2 wb
      dsimp only
      have d2 := mulBd (a := y2 - y1) (b := sp_flat_width l y1) (P := 2097152) (Q := 2097152) (by omega) (by omega) (by omega) (by omega)
      rw [w64_of (n := y2 - y1) (by omega) (by omega), w64_of (n := (y2 - y1) * sp_flat_width l y1) (by omega) (by omega), w64_of (n := s + (y2 - y1) * sp_flat_width l y1) (by omega) (by omega)]
      exact ⟨by omega, by omega, by omega, hl, hnx⟩
    · rw [dec_f (by omega), cond_false]
      rw [List.take_of_length_le (by omega)]
      exact e _
theorem ok_flat_area (a0 : List Rect) (h : pre_flat_area a0) : ∃ F, ∀ Q : Int → Prop, Q (sp_flat_area a0) → w_flat_area F a0 Q := by
  refine ⟨100001, fun Q hQ => ?_⟩
  obtain ⟨h1, h2⟩ := h
  unfold w_flat_area g_flat_area_e n_flat_area_0
  refine lp_f0 100001 _ a0 a0 h1 h2 100001 0 [] (by simp) (by omega) (by omega) ?_
  rw [List.drop_zero]
  unfold g_flat_area_c0_0 n_flat_area_1
  unfold sp_flat_area at hQ
  have hlen := yx_len a0 []
  rw [List.length_nil] at hlen
  have my : inM (yx [] a0) := fun e he => by
    rcases (yx_mem a0 [] e).1 he with h3 | ⟨r, hr, h3⟩
    · cases h3
    · have := (vR_iff r).1 (h2 r hr)
      omega
  have ay := yx_asc a0 [] List.Pairwise.nil
  have hY : hasY a0 (yx [] a0) := fun r hr => ⟨(yx_mem _ _ _).2 (.inr ⟨r, hr, .inl rfl⟩), (yx_mem _ _ _).2 (.inr ⟨r, hr, .inr rfl⟩)⟩
  rw [strips_y a0 _ ay hY my, strip_congr (g := sp_flat_width a0) (fun y _ => (width_A1 a0 y h2).symm)] at hQ
  revert hQ hlen my ay
  generalize yx [] a0 = ys
  intro hQ hlen my ay
  cases ys with
  | nil =>
    show g_flat_area_s1 _ _ _ _ _ _
    unfold g_flat_area_s1
    exact hQ
  | cons a ys =>
    have := lp_f1 100001 (fun t0 t3 t6 t7 => g_flat_area_c1_0 Q t0 t3 t6 t7) a0 ⟨h1, h2⟩ (a :: ys) (by omega) my ay 100001 0 (by simp) (by omega) (fun j => hQ)
    exact this
end
end Go.Proofs.Ytohecfbnmmgimaa

namespace Go.Proofs.Ytohecfbnmmgimaa
open Go.Vm Go.RowKit
set_option linter.unusedVariables false
noncomputable section
/-! ### sheetmetal/flat.alone -/
def M_flat_alone : Nat → Nat → Canon UU := fun b r => cond (Nat.beq b 0) ⟨[2, 3, 7, 8, 17, 18, 19], [3], [(.tmp 7, 58, .rect), (.tmp 8, 59, .rect)], [], []⟩ (cond (Nat.beq b 2) ⟨[2, 3, 7, 8, 11, 17, 18, 19, 34, 35, 36], [3, 11], [(.tmp 7, 58, .rect), (.tmp 8, 59, .rect)], [], []⟩ (⟨[], [], [], [], []⟩))
def st_flat_alone_0 (t2 : List Rect) (t17 : List Rect) (t18 : Int) (t19 : Int) (c3_0 : Int) (c3_1 : Int) (c3_2 : Int) (c3_3 : Int) (l58 : List Rect) (l59 : List Rect) : ASt UU := ⟨fun u => cond (Nat.beq u 2) (.sl .rect t2) (cond (Nat.beq u 3) (.ptr 3 0) (cond (Nat.beq u 7) (.osl 58 0) (cond (Nat.beq u 8) (.osl 59 0) (cond (Nat.beq u 17) (.sl .rect t17) (cond (Nat.beq u 18) (.int .i64 t18) (cond (Nat.beq u 19) (.int .i64 t19) (.any))))))), fun u => cond (Nat.beq u 58) (some (.row .rect 0 l58)) (cond (Nat.beq u 59) (some (.row .rect 0 l59)) (cond (Nat.beq u 3) (some (.cells [.int .i64 c3_0, .int .i64 c3_1, .int .i64 c3_2, .int .i64 c3_3])) (none)))⟩
def st_flat_alone_1 (t2 : List Rect) (t17 : List Rect) (t18 : Int) (t19 : Int) (t34 : List Rect) (t35 : Int) (t36 : Int) (c3_0 : Int) (c3_1 : Int) (c3_2 : Int) (c3_3 : Int) (c11_0 : Int) (c11_1 : Int) (c11_2 : Int) (c11_3 : Int) (l58 : List Rect) (l59 : List Rect) : ASt UU := ⟨fun u => cond (Nat.beq u 2) (.sl .rect t2) (cond (Nat.beq u 3) (.ptr 3 0) (cond (Nat.beq u 7) (.osl 58 0) (cond (Nat.beq u 8) (.osl 59 0) (cond (Nat.beq u 11) (.ptr 11 0) (cond (Nat.beq u 17) (.sl .rect t17) (cond (Nat.beq u 18) (.int .i64 t18) (cond (Nat.beq u 19) (.int .i64 t19) (cond (Nat.beq u 34) (.sl .rect t34) (cond (Nat.beq u 35) (.int .i64 t35) (cond (Nat.beq u 36) (.int .i64 t36) (.any))))))))))), fun u => cond (Nat.beq u 58) (some (.row .rect 0 l58)) (cond (Nat.beq u 59) (some (.row .rect 0 l59)) (cond (Nat.beq u 3) (some (.cells [.int .i64 c3_0, .int .i64 c3_1, .int .i64 c3_2, .int .i64 c3_3])) (cond (Nat.beq u 11) (some (.cells [.int .i64 c11_0, .int .i64 c11_1, .int .i64 c11_2, .int .i64 c11_3])) (none))))⟩
def g_flat_alone_e (a0_X : Int) (a0_Y : Int) (a0_W : Int) (a0_H : Int) (a1 : List Rect) (a2 : List Rect) (Q : Int → Prop) (i0 : List Rect → List Rect → Int → Int → Int → Int → Int → Int → List Rect → List Rect → Prop) : Prop := i0 a2 a1 (a1.length : Int) 0 a0_X a0_Y a0_W a0_H ([]) ([])
def g_flat_alone_s0 (rec : List Rect → List Rect → Int → Int → Int → Int → Int → Int → List Rect → List Rect → Prop) (x0 : List Rect → List Rect → Int → Int → Int → Int → Int → Int → List Rect → List Rect → Prop) (t2 : List Rect) (t17 : List Rect) (t18 : Int) (t19 : Int) (c3_0 : Int) (c3_1 : Int) (c3_2 : Int) (c3_3 : Int) (l58 : List Rect) (l59 : List Rect) (i1 : List Rect → List Rect → Int → Int → List Rect → Int → Int → Int → Int → Int → Int → Int → Int → Int → Int → List Rect → List Rect → Prop) : Prop := cond (decide (t19 < t18)) ((let e0 := (t17.getD t19.toNat default); ((0 ≤ t19 ∧ t19 < t17.length) ∧ (let r1 := (sp_flat_meet c3_0 c3_1 c3_2 c3_3 e0.X e0.Y e0.W e0.H); cond r1.2.2.2.2 ((((l58.length + ([(Rect.mk r1.1 r1.2.1 r1.2.2.1 r1.2.2.2.1)]).length) * 32 ≤ 140737488355328) ∧ i1 t2 t17 t18 t19 t2 (t2.length : Int) 0 c3_0 c3_1 c3_2 c3_3 r1.1 r1.2.1 r1.2.2.1 r1.2.2.2.1 (l58 ++ ([(Rect.mk r1.1 r1.2.1 r1.2.2.1 r1.2.2.2.1)])) l59)) (rec t2 t17 t18 (w64 (t19 + 1)) c3_0 c3_1 c3_2 c3_3 l58 l59))))) (x0 t2 t17 t18 t19 c3_0 c3_1 c3_2 c3_3 l58 l59)
def g_flat_alone_c0_0 (Q : Int → Prop) (t2 : List Rect) (t17 : List Rect) (t18 : Int) (t19 : Int) (c3_0 : Int) (c3_1 : Int) (c3_2 : Int) (c3_3 : Int) (l58 : List Rect) (l59 : List Rect) : Prop := (let v0 := w64 ((sp_flat_area l58) - (sp_flat_area l59)); (((pre_flat_area l58) ∧ (pre_flat_area l59)) ∧ Q v0))
def g_flat_alone_s1 (rec : List Rect → List Rect → Int → Int → List Rect → Int → Int → Int → Int → Int → Int → Int → Int → Int → Int → List Rect → List Rect → Prop) (x0 : List Rect → List Rect → Int → Int → List Rect → Int → Int → Int → Int → Int → Int → Int → Int → Int → Int → List Rect → List Rect → Prop) (t2 : List Rect) (t17 : List Rect) (t18 : Int) (t19 : Int) (t34 : List Rect) (t35 : Int) (t36 : Int) (c3_0 : Int) (c3_1 : Int) (c3_2 : Int) (c3_3 : Int) (c11_0 : Int) (c11_1 : Int) (c11_2 : Int) (c11_3 : Int) (l58 : List Rect) (l59 : List Rect) : Prop := cond (decide (t36 < t35)) ((let e0 := (t34.getD t36.toNat default); ((0 ≤ t36 ∧ t36 < t34.length) ∧ (let r1 := (sp_flat_meet c11_0 c11_1 c11_2 c11_3 e0.X e0.Y e0.W e0.H); cond r1.2.2.2.2 ((((l59.length + ([(Rect.mk r1.1 r1.2.1 r1.2.2.1 r1.2.2.2.1)]).length) * 32 ≤ 140737488355328) ∧ rec t2 t17 t18 t19 t34 t35 (w64 (t36 + 1)) c3_0 c3_1 c3_2 c3_3 c11_0 c11_1 c11_2 c11_3 l58 (l59 ++ ([(Rect.mk r1.1 r1.2.1 r1.2.2.1 r1.2.2.2.1)])))) (rec t2 t17 t18 t19 t34 t35 (w64 (t36 + 1)) c3_0 c3_1 c3_2 c3_3 c11_0 c11_1 c11_2 c11_3 l58 l59))))) (x0 t2 t17 t18 t19 t34 t35 t36 c3_0 c3_1 c3_2 c3_3 c11_0 c11_1 c11_2 c11_3 l58 l59)
def g_flat_alone_c1_0 (rec : List Rect → List Rect → Int → Int → Int → Int → Int → Int → List Rect → List Rect → Prop) (x0 : List Rect → List Rect → Int → Int → Int → Int → Int → Int → List Rect → List Rect → Prop) (t2 : List Rect) (t17 : List Rect) (t18 : Int) (t19 : Int) (t34 : List Rect) (t35 : Int) (t36 : Int) (c3_0 : Int) (c3_1 : Int) (c3_2 : Int) (c3_3 : Int) (c11_0 : Int) (c11_1 : Int) (c11_2 : Int) (c11_3 : Int) (l58 : List Rect) (l59 : List Rect) : Prop := rec t2 t17 t18 (w64 (t19 + 1)) c3_0 c3_1 c3_2 c3_3 l58 l59
def w_flat_alone_1 (F : Nat) (x0 : List Rect → List Rect → Int → Int → List Rect → Int → Int → Int → Int → Int → Int → Int → Int → Int → Int → List Rect → List Rect → Prop) : Nat → List Rect → List Rect → Int → Int → List Rect → Int → Int → Int → Int → Int → Int → Int → Int → Int → Int → List Rect → List Rect → Prop
  | 0, _, _, _, _, _, _, _, _, _, _, _, _, _, _, _, _, _ => False
  | n + 1, t2, t17, t18, t19, t34, t35, t36, c3_0, c3_1, c3_2, c3_3, c11_0, c11_1, c11_2, c11_3, l58, l59 => g_flat_alone_s1 (w_flat_alone_1 F x0 n) x0 t2 t17 t18 t19 t34 t35 t36 c3_0 c3_1 c3_2 c3_3 c11_0 c11_1 c11_2 c11_3 l58 l59
def n_flat_alone_1 (F : Nat) (rec : List Rect → List Rect → Int → Int → Int → Int → Int → Int → List Rect → List Rect → Prop) (x0 : List Rect → List Rect → Int → Int → Int → Int → Int → Int → List Rect → List Rect → Prop) (t2 : List Rect) (t17 : List Rect) (t18 : Int) (t19 : Int) (t34 : List Rect) (t35 : Int) (t36 : Int) (c3_0 : Int) (c3_1 : Int) (c3_2 : Int) (c3_3 : Int) (c11_0 : Int) (c11_1 : Int) (c11_2 : Int) (c11_3 : Int) (l58 : List Rect) (l59 : List Rect) : Prop := w_flat_alone_1 F (fun t2 t17 t18 t19 t34 t35 t36 c3_0 c3_1 c3_2 c3_3 c11_0 c11_1 c11_2 c11_3 l58 l59 => g_flat_alone_c1_0 rec x0 t2 t17 t18 t19 t34 t35 t36 c3_0 c3_1 c3_2 c3_3 c11_0 c11_1 c11_2 c11_3 l58 l59) F t2 t17 t18 t19 t34 t35 t36 c3_0 c3_1 c3_2 c3_3 c11_0 c11_1 c11_2 c11_3 l58 l59
def w_flat_alone_0 (F : Nat) (x0 : List Rect → List Rect → Int → Int → Int → Int → Int → Int → List Rect → List Rect → Prop) : Nat → List Rect → List Rect → Int → Int → Int → Int → Int → Int → List Rect → List Rect → Prop
  | 0, _, _, _, _, _, _, _, _, _, _ => False
  | n + 1, t2, t17, t18, t19, c3_0, c3_1, c3_2, c3_3, l58, l59 => g_flat_alone_s0 (w_flat_alone_0 F x0 n) x0 t2 t17 t18 t19 c3_0 c3_1 c3_2 c3_3 l58 l59 (n_flat_alone_1 F (w_flat_alone_0 F x0 n) x0)
def n_flat_alone_0 (F : Nat) (Q : Int → Prop) (t2 : List Rect) (t17 : List Rect) (t18 : Int) (t19 : Int) (c3_0 : Int) (c3_1 : Int) (c3_2 : Int) (c3_3 : Int) (l58 : List Rect) (l59 : List Rect) : Prop := w_flat_alone_0 F (fun t2 t17 t18 t19 c3_0 c3_1 c3_2 c3_3 l58 l59 => g_flat_alone_c0_0 Q t2 t17 t18 t19 c3_0 c3_1 c3_2 c3_3 l58 l59) F t2 t17 t18 t19 c3_0 c3_1 c3_2 c3_3 l58 l59
def w_flat_alone (F : Nat) (a0_X : Int) (a0_Y : Int) (a0_W : Int) (a0_H : Int) (a1 : List Rect) (a2 : List Rect) (Q : Int → Prop) : Prop := g_flat_alone_e a0_X a0_Y a0_W a0_H a1 a2 Q (n_flat_alone_0 F Q)
end
end Go.Proofs.Ytohecfbnmmgimaa

namespace Go.Proofs.Ytohecfbnmmgimaa
open Go.Vm Go.RowKit
set_option linter.unusedVariables false
noncomputable section

def mtR (a b : Rect) : Rect := ⟨max a.X b.X, max a.Y b.Y, min (a.X + a.W) (b.X + b.W) - max a.X b.X, min (a.Y + a.H) (b.Y + b.H) - max a.Y b.Y⟩
def mOK (a b : Rect) : Bool := decide (0 < (mtR a b).W) && decide (0 < (mtR a b).H)
def mt (a b : Rect) : Option Rect := cond (mOK a b) (some (mtR a b)) none
theorem meet_eq {a b : Rect} (ha : vR a = true) (hb : vR b = true) : sp_flat_meet a.X a.Y a.W a.H b.X b.Y b.W b.H = ((mtR a b).X, (mtR a b).Y, (mtR a b).W, (mtR a b).H, mOK a b) := by
  have h1 := (vR_iff a).1 ha
  have h2 := (vR_iff b).1 hb
  unfold sp_flat_meet mOK mtR
  simp only [mi_min, ma_max]
  rw [w64_of (n := a.X + a.W) (by omega) (by omega), w64_of (n := b.X + b.W) (by omega) (by omega), w64_of (n := a.Y + a.H) (by omega) (by omega), w64_of (n := b.Y + b.H) (by omega) (by omega)]
  rw [w64_of (n := min (a.X + a.W) (b.X + b.W) - max a.X b.X) (by omega) (by omega), w64_of (n := min (a.Y + a.H) (b.Y + b.H) - max a.Y b.Y) (by omega) (by omega)]
  cases decide (0 < min (a.X + a.W) (b.X + b.W) - max a.X b.X) <;> rfl
theorem mtR_vR {a b : Rect} (ha : vR a = true) (hb : vR b = true) (h : mOK a b = true) : vR (mtR a b) = true := by
  have h1 := (vR_iff a).1 ha
  have h2 := (vR_iff b).1 hb
  unfold mOK at h
  rw [Bool.and_eq_true, decide_eq_true_eq, decide_eq_true_eq] at h
  rw [vR_iff]
  unfold mtR at *
  dsimp only at *
  omega
theorem mt_vR {a b m : Rect} (ha : vR a = true) (hb : vR b = true) (h : mt a b = some m) : vR m = true := by
  unfold mt at h
  cases hc : mOK a b
  · rw [hc] at h
    cases h
  · rw [hc] at h
    cases h
    exact mtR_vR ha hb hc
theorem inB_mtR (a b : Rect) (x y : Int) : inB (mtR a b) x y = (inB a x y && inB b x y) := by
  rw [Bool.eq_iff_iff, Bool.and_eq_true, inB_iff, inB_iff, inB_iff]
  unfold mtR
  dsimp only
  omega
theorem inB_none {a b : Rect} (h : mOK a b = false) (x y : Int) : (inB a x y && inB b x y) = false := by
  rw [← inB_mtR, ← Bool.not_eq_true, inB_iff]
  intro hi
  have : mOK a b = true := by
    unfold mOK
    rw [Bool.and_eq_true, decide_eq_true_eq, decide_eq_true_eq]
    omega
  rw [h] at this
  cases this
theorem cov_mt (c : Rect) (l : List Rect) (x y : Int) : covB (l.filterMap (mt c)) x y = (inB c x y && covB l x y) := by
  induction l with
  | nil => simp [covB]
  | cons r l ih =>
    have e : covB (r :: l) x y = (inB r x y || covB l x y) := rfl
    rw [e]
    cases hm : mOK c r
    · have : mt c r = none := by unfold mt; rw [hm]; rfl
      rw [List.filterMap_cons_none this, ih]
      have := inB_none hm x y
      revert this
      cases inB c x y <;> cases inB r x y <;> simp
    · have : mt c r = some (mtR c r) := by unfold mt; rw [hm]; rfl
      rw [List.filterMap_cons_some this]
      have e2 : covB (mtR c r :: l.filterMap (mt c)) x y = (inB (mtR c r) x y || covB (l.filterMap (mt c)) x y) := rfl
      rw [e2, ih, inB_mtR]
      cases inB c x y <;> simp
/-- The parts of a rectangle in some others, and in more beside. -/
def both (c : Rect) (l before : List Rect) : List Rect := (l.filterMap (mt c)).flatMap fun m => before.filterMap (mt m)
theorem cov_both (c : Rect) (l before : List Rect) (x y : Int) : covB (both c l before) x y = ((inB c x y && covB l x y) && covB before x y) := by
  rw [← cov_mt]
  unfold both
  induction l.filterMap (mt c) with
  | nil => simp [covB]
  | cons m l ih =>
    have e : covB (m :: l) x y = (inB m x y || covB l x y) := rfl
    rw [List.flatMap_cons, e]
    have e2 : ∀ p q, covB (p ++ q) x y = (covB p x y || covB q x y) := fun p q => by unfold covB; rw [List.any_append]
    rw [e2, ih, cov_mt]
    cases inB m x y <;> cases covB l x y <;> cases covB before x y <;> rfl
def pre_flat_alone (X Y W H : Int) (l before : List Rect) : Prop := vR ⟨X, Y, W, H⟩ = true ∧ (l.length ≤ 48 ∧ ∀ r ∈ l, vR r = true) ∧ before.length ≤ 48 ∧ ∀ r ∈ before, vR r = true
def sp_flat_alone (X Y W H : Int) (l before : List Rect) : Int := A fun x y => (inB ⟨X, Y, W, H⟩ x y && covB l x y) && !covB before x y
theorem alone_eq (c : Rect) (l before : List Rect) : A (fun x y => (inB c x y && covB l x y) && !covB before x y) = A (covB (l.filterMap (mt c))) - A (covB (both c l before)) := by
  have h := A_split (fun x y => inB c x y && covB l x y) (covB before)
  have h1 : A (covB (l.filterMap (mt c))) = A (fun x y => inB c x y && covB l x y) := A_congr fun x y => cov_mt c l x y
  have h2 : A (covB (both c l before)) = A (fun x y => (inB c x y && covB l x y) && covB before x y) := A_congr fun x y => cov_both c l before x y
  rw [h1, h2]
  omega
theorem fm_len (m : Rect) (l : List Rect) : (l.filterMap (mt m)).length ≤ l.length := List.length_filterMap_le ..
theorem lp_al1 (F : Nat) (x0 : List Rect → List Rect → Int → Int → List Rect → Int → Int → Int → Int → Int → Int → Int → Int → Int → Int → List Rect → List Rect → Prop) (t2 t17 : List Rect) (t18 t19 : Int) (c m : Rect) (p : List Rect) (l : List Rect) (hl : l.length ≤ 48) (hv : ∀ r ∈ l, vR r = true) (hm : vR m = true) : ∀ (n k : Nat) (q : List Rect), q.length ≤ 10000 + k → k ≤ l.length → l.length < k + n →
    x0 t2 t17 t18 t19 l l.length l.length c.X c.Y c.W c.H m.X m.Y m.W m.H p (q ++ (l.drop k).filterMap (mt m)) → w_flat_alone_1 F x0 n t2 t17 t18 t19 l l.length k c.X c.Y c.W c.H m.X m.Y m.W m.H p q := by
  intro n
  induction n with
  | zero => intro k q hq h1 h2; omega
  | succ n ih =>
    intro k q hq h1 h2 e
    show g_flat_alone_s1 (w_flat_alone_1 F x0 n) x0 t2 t17 t18 t19 l l.length k c.X c.Y c.W c.H m.X m.Y m.W m.H p q
    unfold g_flat_alone_s1
    by_cases h : k < l.length
    · rw [dec_t (by omega), cond_true, Int.toNat_natCast]
      have hmem : l.getD k default ∈ l := by simp [List.getD, h]
      have hb := hv _ hmem
      rw [drop_getD l k h] at e
      rw [w64_succ h (by omega)]
      revert e hb
      generalize l.getD k default = r
      intro e hb
      dsimp only
      rw [meet_eq hm hb]
      dsimp only
      refine ⟨by omega, ?_⟩
      cases hc : mOK m r
      · rw [cond_false]
        have : mt m r = none := by unfold mt; rw [hc]; rfl
        rw [List.filterMap_cons_none this] at e
        exact ih _ _ (by omega) (by omega) (by omega) e
      · rw [cond_true]
        have : mt m r = some (mtR m r) := by unfold mt; rw [hc]; rfl
        rw [List.filterMap_cons_some this] at e
        refine ⟨by simp only [List.length_singleton]; omega, ?_⟩
        refine ih _ _ (by simp only [List.length_append, List.length_singleton]; omega) (by omega) (by omega) ?_
        rw [List.append_assoc]
        exact e
    · rw [dec_f (by omega), cond_false]
      have he : k = l.length := by omega
      rw [he] at e ⊢
      rw [List.drop_length] at e
      simpa using e
theorem lp_al0 (F : Nat) (hF : 1000 < F) (x0 : List Rect → List Rect → Int → Int → Int → Int → Int → Int → List Rect → List Rect → Prop) (before : List Rect) (c : Rect) (l : List Rect) (hc : vR c = true) (hl : l.length ≤ 48) (hv : ∀ r ∈ l, vR r = true) (hl' : before.length ≤ 48) (hv' : ∀ r ∈ before, vR r = true) : ∀ (n i : Nat) (p q : List Rect), p.length ≤ i → q.length ≤ 48 * i → i ≤ l.length → l.length < i + n →
    x0 before l l.length l.length c.X c.Y c.W c.H (p ++ (l.drop i).filterMap (mt c)) (q ++ both c (l.drop i) before) → w_flat_alone_0 F x0 n before l l.length i c.X c.Y c.W c.H p q := by
  intro n
  induction n with
  | zero => intro i p q hp hq h1 h2; omega
  | succ n ih =>
    intro i p q hp hq h1 h2 e
    show g_flat_alone_s0 (w_flat_alone_0 F x0 n) x0 before l l.length i c.X c.Y c.W c.H p q (n_flat_alone_1 F (w_flat_alone_0 F x0 n) x0)
    unfold g_flat_alone_s0
    by_cases h : i < l.length
    · rw [dec_t (by omega), cond_true, Int.toNat_natCast]
      have hmem : l.getD i default ∈ l := by simp [List.getD, h]
      have hb := hv _ hmem
      rw [drop_getD l i h] at e
      rw [w64_succ h (by omega)]
      revert e hb
      generalize l.getD i default = r
      intro e hb
      dsimp only
      rw [meet_eq hc hb]
      dsimp only
      refine ⟨by omega, ?_⟩
      cases hk : mOK c r
      · rw [cond_false]
        have : mt c r = none := by unfold mt; rw [hk]; rfl
        have e2 : both c (r :: l.drop (i + 1)) before = both c (l.drop (i + 1)) before := by unfold both; rw [List.filterMap_cons_none this]
        rw [List.filterMap_cons_none this, e2] at e
        exact ih _ _ _ (by omega) (by omega) (by omega) (by omega) e
      · rw [cond_true]
        have : mt c r = some (mtR c r) := by unfold mt; rw [hk]; rfl
        have e2 : both c (r :: l.drop (i + 1)) before = before.filterMap (mt (mtR c r)) ++ both c (l.drop (i + 1)) before := by unfold both; rw [List.filterMap_cons_some this, List.flatMap_cons]
        rw [List.filterMap_cons_some this, e2] at e
        refine ⟨by simp only [List.length_singleton]; omega, ?_⟩
        refine lp_al1 F _ before l _ _ c (mtR c r) _ before hl' hv' (mtR_vR hc hb hk) F 0 q (by omega) (by omega) (by omega) ?_
        rw [List.drop_zero]
        show w_flat_alone_0 F x0 n before l _ (w64 _) _ _ _ _ _ _
        rw [w64_succ h (by omega)]
        have := fm_len (mtR c r) before
        refine ih _ _ _ (by simp only [List.length_append, List.length_singleton]; omega) (by simp only [List.length_append]; omega) (by omega) (by omega) ?_
        rw [List.append_assoc, List.append_assoc]
        exact e
    · rw [dec_f (by omega), cond_false]
      have he : i = l.length := by omega
      rw [he] at e ⊢
      rw [List.drop_length] at e
      simpa [both] using e
theorem fm_vR {c : Rect} {l : List Rect} (hc : vR c = true) (hv : ∀ r ∈ l, vR r = true) : ∀ r ∈ l.filterMap (mt c), vR r = true := fun m hm => by
  obtain ⟨r, hr, h⟩ := List.mem_filterMap.1 hm
  exact mt_vR hc (hv r hr) h
theorem both_len (c : Rect) (l before : List Rect) : (both c l before).length ≤ l.length * before.length := by
  have h1 := fm_len c l
  refine Nat.le_trans ?_ (Nat.mul_le_mul_right _ h1)
  unfold both
  induction l.filterMap (mt c) with
  | nil => simp
  | cons m l ih =>
    have := fm_len m before
    rw [List.flatMap_cons, List.length_append, List.length_cons, Nat.add_mul, Nat.one_mul]
    omega
theorem ok_flat_alone (a0_X : Int) (a0_Y : Int) (a0_W : Int) (a0_H : Int) (a1 : List Rect) (a2 : List Rect) (h : pre_flat_alone a0_X a0_Y a0_W a0_H a1 a2) : ∃ F, ∀ Q : Int → Prop, Q (sp_flat_alone a0_X a0_Y a0_W a0_H a1 a2) → w_flat_alone F a0_X a0_Y a0_W a0_H a1 a2 Q := by
  refine ⟨1001, fun Q hQ => ?_⟩
  obtain ⟨hc, ⟨hl, hv⟩, hl', hv'⟩ := h
  unfold w_flat_alone g_flat_alone_e n_flat_alone_0
  unfold sp_flat_alone at hQ
  rw [alone_eq] at hQ
  refine lp_al0 1001 (by omega) _ a2 ⟨a0_X, a0_Y, a0_W, a0_H⟩ a1 hc hl hv hl' hv' 1001 0 [] [] (by simp) (by simp) (by omega) (by omega) ?_
  rw [List.drop_zero, List.nil_append, List.nil_append]
  unfold g_flat_alone_c0_0
  have b1 := A_bd (covB (a1.filterMap (mt ⟨a0_X, a0_Y, a0_W, a0_H⟩)))
  have b2 := A_bd (covB (both ⟨a0_X, a0_Y, a0_W, a0_H⟩ a1 a2))
  dsimp only
  unfold sp_flat_area
  rw [w64_of (by omega) (by omega)]
  have l1 := fm_len ⟨a0_X, a0_Y, a0_W, a0_H⟩ a1
  have l2 := both_len ⟨a0_X, a0_Y, a0_W, a0_H⟩ a1 a2
  have l3 : a1.length * a2.length ≤ 48 * 48 := Nat.mul_le_mul hl hl'
  refine ⟨⟨⟨by omega, fm_vR hc hv⟩, ⟨by omega, fun m hm => ?_⟩⟩, hQ⟩
  obtain ⟨r, hr, hm'⟩ := List.mem_flatMap.1 hm
  exact fm_vR (fm_vR hc hv r hr) hv' m hm'
end
end Go.Proofs.Ytohecfbnmmgimaa

namespace Go.Proofs.Ytohecfbnmmgimaa
open Go.Vm Go.RowKit
set_option linter.unusedVariables false
noncomputable section
/-! ### sheetmetal/flat.Surface -/
def M_flat_Surface : Nat → Nat → Canon UU := fun b r => cond (Nat.beq b 0) ⟨[1, 5, 7, 25, 26, 27], [1], [], [], []⟩ (⟨[], [], [], [], []⟩)
def st_flat_Surface_0 (t5 : Int) (t7 : Int) (t25 : List Rect) (t26 : Int) (t27 : Int) (c1_0 : List Rect) (c1_1 : List Rect) (c1_2 : List Rect) (c1_3 : List Bend) : ASt UU := ⟨fun u => cond (Nat.beq u 1) (.ptr 1 0) (cond (Nat.beq u 5) (.int .i64 t5) (cond (Nat.beq u 7) (.int .i64 t7) (cond (Nat.beq u 25) (.sl .rect t25) (cond (Nat.beq u 26) (.int .i64 t26) (cond (Nat.beq u 27) (.int .i64 t27) (.any)))))), fun u => cond (Nat.beq u 1) (some (.cells [.sl .rect c1_0, .sl .rect c1_1, .sl .rect c1_2, .sl .bend c1_3])) (none)⟩
def g_flat_Surface_e (a0_Rects : List Rect) (a0_Cuts : List Rect) (a0_Forms : List Rect) (a0_Bends : List Bend) (Q : Int → Int → Prop) (i0 : Int → Int → List Rect → Int → Int → List Rect → List Rect → List Rect → List Bend → Prop) : Prop := (let r0 := (sp_flat_check a0_Rects a0_Cuts a0_Forms a0_Bends); ((pre_flat_check a0_Rects a0_Cuts a0_Forms a0_Bends) ∧ cond (r0 != 0) (Q 0 r0) ((let r1 := (sp_geom_Area a0_Rects); ((pre_geom_Area a0_Rects) ∧ cond (r1.2 != 0) (Q 0 r1.2) (i0 r1.1 0 a0_Cuts (a0_Cuts.length : Int) 0 a0_Rects a0_Cuts a0_Forms a0_Bends))))))
def g_flat_Surface_s0 (rec : Int → Int → List Rect → Int → Int → List Rect → List Rect → List Rect → List Bend → Prop) (x0 : Int → Int → List Rect → Int → Int → List Rect → List Rect → List Rect → List Bend → Prop) (t5 : Int) (t7 : Int) (t25 : List Rect) (t26 : Int) (t27 : Int) (c1_0 : List Rect) (c1_1 : List Rect) (c1_2 : List Rect) (c1_3 : List Bend) : Prop := cond (decide (t27 < t26)) ((let e0 := (t25.getD t27.toNat default); ((0 ≤ t27 ∧ t27 < t25.length) ∧ ((0 ≤ t27 ∧ t27 ≤ c1_1.length) ∧ (let r1 := (sp_flat_alone e0.X e0.Y e0.W e0.H c1_0 (c1_1.take t27.toNat)); ((pre_flat_alone e0.X e0.Y e0.W e0.H c1_0 (c1_1.take t27.toNat)) ∧ rec t5 (w64 (t7 + r1)) t25 t26 (w64 (t27 + 1)) c1_0 c1_1 c1_2 c1_3)))))) (x0 t5 t7 t25 t26 t27 c1_0 c1_1 c1_2 c1_3)
def g_flat_Surface_c0_0 (Q : Int → Int → Prop) (t5 : Int) (t7 : Int) (t25 : List Rect) (t26 : Int) (t27 : Int) (c1_0 : List Rect) (c1_1 : List Rect) (c1_2 : List Rect) (c1_3 : List Bend) : Prop := Q (w64 (t5 - t7)) 0
def w_flat_Surface_0 (F : Nat) (x0 : Int → Int → List Rect → Int → Int → List Rect → List Rect → List Rect → List Bend → Prop) : Nat → Int → Int → List Rect → Int → Int → List Rect → List Rect → List Rect → List Bend → Prop
  | 0, _, _, _, _, _, _, _, _, _ => False
  | n + 1, t5, t7, t25, t26, t27, c1_0, c1_1, c1_2, c1_3 => g_flat_Surface_s0 (w_flat_Surface_0 F x0 n) x0 t5 t7 t25 t26 t27 c1_0 c1_1 c1_2 c1_3
def n_flat_Surface_0 (F : Nat) (Q : Int → Int → Prop) (t5 : Int) (t7 : Int) (t25 : List Rect) (t26 : Int) (t27 : Int) (c1_0 : List Rect) (c1_1 : List Rect) (c1_2 : List Rect) (c1_3 : List Bend) : Prop := w_flat_Surface_0 F (fun t5 t7 t25 t26 t27 c1_0 c1_1 c1_2 c1_3 => g_flat_Surface_c0_0 Q t5 t7 t25 t26 t27 c1_0 c1_1 c1_2 c1_3) F t5 t7 t25 t26 t27 c1_0 c1_1 c1_2 c1_3
def w_flat_Surface (F : Nat) (a0_Rects : List Rect) (a0_Cuts : List Rect) (a0_Forms : List Rect) (a0_Bends : List Bend) (Q : Int → Int → Prop) : Prop := g_flat_Surface_e a0_Rects a0_Cuts a0_Forms a0_Bends Q (n_flat_Surface_0 F Q)
end
end Go.Proofs.Ytohecfbnmmgimaa

namespace Go.Proofs.Ytohecfbnmmgimaa
open Go.Vm Go.RowKit
set_option linter.unusedVariables false
noncomputable section

/-- The faces without the holes that are cut. -/
def surf (R C : List Rect) : Int := A fun x y => covB R x y && !covB C x y
def pre_flat_Surface (R C M : List Rect) (B : List Bend) : Prop := sh B
def sp_flat_Surface (R C M : List Rect) (B : List Bend) : Int × Int := cond (wholeB R C M B) (surf R C, 0) (0, 1)
theorem whole_lists {R C M : List Rect} {B : List Bend} (h : wholeB R C M B = true) : R ≠ [] ∧ (R.length ≤ 48 ∧ ∀ r ∈ R, vR r = true) ∧ (C.length ≤ 48 ∧ ∀ r ∈ C, vR r = true) ∧ (M.length ≤ 48 ∧ ∀ r ∈ M, vR r = true) ∧ ∀ b ∈ B, lineOK b = true := by
  unfold wholeB okL at h
  simp only [Bool.and_eq_true, decide_eq_true_eq, List.all_eq_true] at h
  obtain ⟨⟨h0, h1, h2, h3⟩, h4⟩ := h
  exact ⟨fun e => h0 (by rw [e]; rfl), h1, h2, h3, h4⟩
theorem lost_step (p : Int → Int → Bool) (C : List Rect) (k : Nat) (h : k < C.length) :
    A (fun x y => p x y && covB (C.take (k + 1)) x y) = A (fun x y => p x y && covB (C.take k) x y) + A (fun x y => (inB (C.getD k default) x y && p x y) && !covB (C.take k) x y) := by
  have e : ∀ x y, covB (C.take (k + 1)) x y = (covB (C.take k) x y || inB (C.getD k default) x y) := fun x y => by
    have : C.take (k + 1) = C.take k ++ [C.getD k default] := by
      rw [List.take_succ_eq_append_getElem h]
      simp [h]
    rw [this]
    unfold covB
    rw [List.any_append]
    simp
  rw [A_split (fun x y => p x y && covB (C.take (k + 1)) x y) (covB (C.take k))]
  have e1 : A (fun x y => (p x y && covB (C.take (k + 1)) x y) && covB (C.take k) x y) = A (fun x y => p x y && covB (C.take k) x y) := A_congr fun x y => by
    rw [e]
    cases p x y <;> cases covB (C.take k) x y <;> simp
  have e2 : A (fun x y => (p x y && covB (C.take (k + 1)) x y) && !covB (C.take k) x y) = A (fun x y => (inB (C.getD k default) x y && p x y) && !covB (C.take k) x y) := A_congr fun x y => by
    rw [e]
    cases p x y <;> cases covB (C.take k) x y <;> cases inB (C.getD k default) x y <;> rfl
  rw [e1, e2]
theorem lp_sf (F : Nat) (x0 : Int → Int → List Rect → Int → Int → List Rect → List Rect → List Rect → List Bend → Prop) (s : Int) (R C M : List Rect) (B : List Bend) (hR : R.length ≤ 48 ∧ ∀ r ∈ R, vR r = true) (hC : C.length ≤ 48 ∧ ∀ r ∈ C, vR r = true) : ∀ (n k : Nat), k ≤ C.length → C.length < k + n →
    x0 s (A (fun x y => covB R x y && covB C x y)) C C.length C.length R C M B → w_flat_Surface_0 F x0 n s (A (fun x y => covB R x y && covB (C.take k) x y)) C C.length k R C M B := by
  intro n
  induction n with
  | zero => intro k h1 h2; omega
  | succ n ih =>
    intro k h1 h2 e
    show g_flat_Surface_s0 (w_flat_Surface_0 F x0 n) x0 s _ C C.length k R C M B
    unfold g_flat_Surface_s0
    have h48 := hC.1
    by_cases h : k < C.length
    · rw [dec_t (by omega), cond_true, Int.toNat_natCast]
      have hmem : C.getD k default ∈ C := by simp [List.getD, h]
      have hc := hC.2 _ hmem
      have hs := lost_step (covB R) C k h
      have hnx := ih (k + 1) (by omega) (by omega) e
      rw [hs] at hnx
      rw [w64_succ h (by omega)]
      have b1 := A_bd (fun x y => covB R x y && covB (C.take k) x y)
      have b2 := A_bd (fun x y => (inB (C.getD k default) x y && covB R x y) && !covB (C.take k) x y)
      dsimp only
      refine ⟨by omega, by omega, ⟨hc, hR, by simp; omega, fun r hr => hC.2 r (List.mem_of_mem_take hr)⟩, ?_⟩
      unfold sp_flat_alone
      have ec : (⟨(C.getD k default).X, (C.getD k default).Y, (C.getD k default).W, (C.getD k default).H⟩ : Rect) = C.getD k default := rfl
      rw [ec, w64_of (by omega) (by omega)]
      exact hnx
    · rw [dec_f (by omega), cond_false]
      have he : k = C.length := by omega
      subst he
      rw [List.take_length]
      exact e
theorem ok_flat_Surface (a0_Rects : List Rect) (a0_Cuts : List Rect) (a0_Forms : List Rect) (a0_Bends : List Bend) (h : pre_flat_Surface a0_Rects a0_Cuts a0_Forms a0_Bends) : ∃ F, ∀ Q : Int → Int → Prop, Q ((sp_flat_Surface a0_Rects a0_Cuts a0_Forms a0_Bends).1) ((sp_flat_Surface a0_Rects a0_Cuts a0_Forms a0_Bends).2) → w_flat_Surface F a0_Rects a0_Cuts a0_Forms a0_Bends Q := by
  refine ⟨1001, fun Q hQ => ?_⟩
  unfold w_flat_Surface g_flat_Surface_e n_flat_Surface_0
  unfold sp_flat_Surface at hQ
  unfold sp_flat_check
  cases hw : wholeB a0_Rects a0_Cuts a0_Forms a0_Bends
  · rw [hw, cond_false] at hQ
    exact ⟨h, hQ⟩
  · rw [hw, cond_true] at hQ
    obtain ⟨hne, hR, hC, hM, hB⟩ := whole_lists hw
    have hr0 : sp_geom_rects [a0_Rects] = 0 := by
      unfold sp_geom_rects
      have e1 : decide (48 < a0_Rects.length) = false := dec_f (by omega)
      have e2 : a0_Rects.all vR = true := List.all_eq_true.2 hR.2
      simp [e1, e2]
    have hA : sp_geom_Area a0_Rects = (A (covB a0_Rects), 0) := by
      unfold sp_geom_Area
      rw [hr0]
      rfl
    refine ⟨h, ?_⟩
    rw [hA]
    refine ⟨trivial, ?_⟩
    have h48 := hC.1
    have hz : A (fun x y => covB a0_Rects x y && covB (a0_Cuts.take 0) x y) = 0 := by
      refine (A_congr (q := fun _ _ => false) fun x y => ?_).trans ?_
      · rw [List.take_zero]
        show (covB a0_Rects x y && false) = false
        cases covB a0_Rects x y <;> rfl
      · refine (A1_congr (g := fun _ => 0) fun x => ?_).trans (S_zero _ _)
        exact S_zero _ _
    have := lp_sf 1001 (fun t5 t7 t25 t26 t27 c1_0 c1_1 c1_2 c1_3 => g_flat_Surface_c0_0 Q t5 t7 t25 t26 t27 c1_0 c1_1 c1_2 c1_3) (A (covB a0_Rects)) a0_Rects a0_Cuts a0_Forms a0_Bends hR hC 1001 0 (by omega) (by omega) (by
      show Q (w64 (A (covB a0_Rects) - A (fun x y => covB a0_Rects x y && covB a0_Cuts x y))) 0
      have hs := A_split (covB a0_Rects) (covB a0_Cuts)
      have b1 := A_bd (covB a0_Rects)
      have b2 := A_bd (fun x y => covB a0_Rects x y && covB a0_Cuts x y)
      rw [w64_of (by omega) (by omega)]
      have e : A (covB a0_Rects) - A (fun x y => covB a0_Rects x y && covB a0_Cuts x y) = surf a0_Rects a0_Cuts := by unfold surf; omega
      rw [e]
      exact hQ)
    rw [hz] at this
    exact this
end
end Go.Proofs.Ytohecfbnmmgimaa

namespace Go.Proofs.Ytohecfbnmmgimaa
open Go.Vm Go.RowKit
set_option linter.unusedVariables false
noncomputable section
/-! ### sheetmetal/sheetmetalref01.insert -/
def M_ref01_insert : Nat → Nat → Canon UU := fun b r => cond (Nat.beq b 0) ⟨[0, 1, 4, 5, 6, 7], [], [(.tmp 5, 49, .int)], [], []⟩ (⟨[], [], [], [], []⟩)
def st_ref01_insert_0 (t0 : List Int) (t1 : Int) (t6 : Bool) (t7 : Int) (l49 : List Int) : ASt UU := ⟨fun u => cond (Nat.beq u 0) (.sl .int t0) (cond (Nat.beq u 1) (.int .i64 t1) (cond (Nat.beq u 4) (.nils) (cond (Nat.beq u 5) (.osl 49 0) (cond (Nat.beq u 6) (.bool t6) (cond (Nat.beq u 7) (.int .i64 t7) (.any)))))), fun u => cond (Nat.beq u 49) (some (.row .int 0 l49)) (none)⟩
def st_ref01_insert_0_0 (t0 : List Int) (t1 : Int) (t4 : List Int) (t6 : Bool) (t7 : Int) (l49 : List Int) : ASt UU := ⟨fun u => cond (Nat.beq u 0) (.sl .int t0) (cond (Nat.beq u 1) (.int .i64 t1) (cond (Nat.beq u 4) (.sl .int t4) (cond (Nat.beq u 5) (.osl 49 0) (cond (Nat.beq u 6) (.bool t6) (cond (Nat.beq u 7) (.int .i64 t7) (.any)))))), fun u => cond (Nat.beq u 49) (some (.row .int 0 l49)) (none)⟩
def g_ref01_insert_e (a0 : List Int) (a1 : Int) (Q : List Int → Prop) (i0 : List Int → Int → Bool → Int → List Int → Prop) : Prop := i0 a0 a1 false 0 ([])
def g_ref01_insert_s0 (rec : List Int → Int → Bool → Int → List Int → Prop) (x0 : List Int → Int → List Int → Bool → Int → List Int → Prop) (x1 : List Int → Int → Bool → Int → List Int → Prop) (t0 : List Int) (t1 : Int) (t6 : Bool) (t7 : Int) (l49 : List Int) : Prop := cond (decide (t7 < (t0.length : Int))) ((let e0 := (t0.getD t7.toNat default); ((0 ≤ t7 ∧ t7 < t0.length) ∧ cond (e0 == t1) (x0 t0 t1 t0 t6 t7 l49) ((let e1 := (t0.getD t7.toNat default); (((!t6) = true → 0 ≤ t7 ∧ t7 < t0.length) ∧ cond ((!t6) && (decide (t1 < e1))) ((((l49.length + ([t1]).length) * 8 ≤ 140737488355328) ∧ (let e2 := (t0.getD t7.toNat default); (((0 ≤ t7 ∧ t7 < t0.length) ∧ (((l49 ++ ([t1])).length + ([e2]).length) * 8 ≤ 140737488355328)) ∧ rec t0 t1 true (w64 (t7 + 1)) ((l49 ++ ([t1])) ++ ([e2])))))) ((let e3 := (t0.getD t7.toNat default); (((0 ≤ t7 ∧ t7 < t0.length) ∧ ((l49.length + ([e3]).length) * 8 ≤ 140737488355328)) ∧ rec t0 t1 t6 (w64 (t7 + 1)) (l49 ++ ([e3]))))))))))) (x1 t0 t1 t6 t7 l49)
def g_ref01_insert_c0_0 (Q : List Int → Prop) (t0 : List Int) (t1 : Int) (t4 : List Int) (t6 : Bool) (t7 : Int) (l49 : List Int) : Prop := Q t4
def g_ref01_insert_c0_1 (Q : List Int → Prop) (t0 : List Int) (t1 : Int) (t6 : Bool) (t7 : Int) (l49 : List Int) : Prop := cond (!t6) ((((l49.length + ([t1]).length) * 8 ≤ 140737488355328) ∧ Q (l49 ++ ([t1])))) (Q l49)
def w_ref01_insert_0 (F : Nat) (x0 : List Int → Int → List Int → Bool → Int → List Int → Prop) (x1 : List Int → Int → Bool → Int → List Int → Prop) : Nat → List Int → Int → Bool → Int → List Int → Prop
  | 0, _, _, _, _, _ => False
  | n + 1, t0, t1, t6, t7, l49 => g_ref01_insert_s0 (w_ref01_insert_0 F x0 x1 n) x0 x1 t0 t1 t6 t7 l49
def n_ref01_insert_0 (F : Nat) (Q : List Int → Prop) (t0 : List Int) (t1 : Int) (t6 : Bool) (t7 : Int) (l49 : List Int) : Prop := w_ref01_insert_0 F (fun t0 t1 t4 t6 t7 l49 => g_ref01_insert_c0_0 Q t0 t1 t4 t6 t7 l49) (fun t0 t1 t6 t7 l49 => g_ref01_insert_c0_1 Q t0 t1 t6 t7 l49) F t0 t1 t6 t7 l49
def w_ref01_insert (F : Nat) (a0 : List Int) (a1 : Int) (Q : List Int → Prop) : Prop := g_ref01_insert_e a0 a1 Q (n_ref01_insert_0 F Q)
/-! ### sheetmetal/sheetmetalref01.covers -/
def M_ref01_covers : Nat → Nat → Canon UU := fun b r => cond (Nat.beq b 0) ⟨[0, 1, 2, 6, 7], [], [], [], []⟩ (⟨[], [], [], [], []⟩)
def st_ref01_covers_0 (t0 : List Rect) (t1 : Int) (t2 : Int) (t6 : Bool) (t7 : Int) : ASt UU := ⟨fun u => cond (Nat.beq u 0) (.sl .rect t0) (cond (Nat.beq u 1) (.int .i64 t1) (cond (Nat.beq u 2) (.int .i64 t2) (cond (Nat.beq u 6) (.bool t6) (cond (Nat.beq u 7) (.int .i64 t7) (.any))))), fun u => none⟩
def g_ref01_covers_e (a0 : List Rect) (a1 : Int) (a2 : Int) (Q : Bool → Prop) (i0 : List Rect → Int → Int → Bool → Int → Prop) : Prop := i0 a0 a1 a2 false 0
def g_ref01_covers_s0 (rec : List Rect → Int → Int → Bool → Int → Prop) (x0 : List Rect → Int → Int → Bool → Int → Prop) (x1 : List Rect → Int → Int → Bool → Int → Prop) (t0 : List Rect) (t1 : Int) (t2 : Int) (t6 : Bool) (t7 : Int) : Prop := cond (decide (t7 < (t0.length : Int))) ((let e0 := (t0.getD t7.toNat default); ((0 ≤ t7 ∧ t7 < t0.length) ∧ cond (decide (e0.X ≤ t1)) ((let e1 := (t0.getD t7.toNat default); ((0 ≤ t7 ∧ t7 < t0.length) ∧ (let e2 := (t0.getD t7.toNat default); ((0 ≤ t7 ∧ t7 < t0.length) ∧ cond (decide (t1 < (w64 (e1.X + e2.W)))) ((let e3 := (t0.getD t7.toNat default); ((0 ≤ t7 ∧ t7 < t0.length) ∧ cond (decide (e3.Y ≤ t2)) ((let e4 := (t0.getD t7.toNat default); ((0 ≤ t7 ∧ t7 < t0.length) ∧ (let e5 := (t0.getD t7.toNat default); ((0 ≤ t7 ∧ t7 < t0.length) ∧ cond (decide (t2 < (w64 (e4.Y + e5.H)))) (x0 t0 t1 t2 true t7) (rec t0 t1 t2 t6 (w64 (t7 + 1)))))))) (rec t0 t1 t2 t6 (w64 (t7 + 1)))))) (rec t0 t1 t2 t6 (w64 (t7 + 1)))))))) (rec t0 t1 t2 t6 (w64 (t7 + 1)))))) (x1 t0 t1 t2 t6 t7)
def g_ref01_covers_c0_0 (Q : Bool → Prop) (t0 : List Rect) (t1 : Int) (t2 : Int) (t6 : Bool) (t7 : Int) : Prop := Q t6
def g_ref01_covers_c0_1 (Q : Bool → Prop) (t0 : List Rect) (t1 : Int) (t2 : Int) (t6 : Bool) (t7 : Int) : Prop := Q false
def w_ref01_covers_0 (F : Nat) (x0 : List Rect → Int → Int → Bool → Int → Prop) (x1 : List Rect → Int → Int → Bool → Int → Prop) : Nat → List Rect → Int → Int → Bool → Int → Prop
  | 0, _, _, _, _, _ => False
  | n + 1, t0, t1, t2, t6, t7 => g_ref01_covers_s0 (w_ref01_covers_0 F x0 x1 n) x0 x1 t0 t1 t2 t6 t7
def n_ref01_covers_0 (F : Nat) (Q : Bool → Prop) (t0 : List Rect) (t1 : Int) (t2 : Int) (t6 : Bool) (t7 : Int) : Prop := w_ref01_covers_0 F (fun t0 t1 t2 t6 t7 => g_ref01_covers_c0_0 Q t0 t1 t2 t6 t7) (fun t0 t1 t2 t6 t7 => g_ref01_covers_c0_1 Q t0 t1 t2 t6 t7) F t0 t1 t2 t6 t7
def w_ref01_covers (F : Nat) (a0 : List Rect) (a1 : Int) (a2 : Int) (Q : Bool → Prop) : Prop := g_ref01_covers_e a0 a1 a2 Q (n_ref01_covers_0 F Q)
/-! ### sheetmetal/sheetmetalref01.Both -/
def M_ref01_Both : Nat → Nat → Canon UU := fun b r => cond (Nat.beq b 0) ⟨[0, 1, 5, 6], [], [(.tmp 5, 35, .rect)], [], []⟩ (cond (Nat.beq b 2) ⟨[1, 5, 7], [], [(.tmp 5, 35, .rect)], [], []⟩ (⟨[], [], [], [], []⟩))
def st_ref01_Both_0 (t0 : List Rect) (t1 : List Rect) (t6 : Int) (l35 : List Rect) : ASt UU := ⟨fun u => cond (Nat.beq u 0) (.sl .rect t0) (cond (Nat.beq u 1) (.sl .rect t1) (cond (Nat.beq u 5) (.osl 35 0) (cond (Nat.beq u 6) (.int .i64 t6) (.any)))), fun u => cond (Nat.beq u 35) (some (.row .rect 0 l35)) (none)⟩
def st_ref01_Both_1 (t1 : List Rect) (t7 : Int) (l35 : List Rect) : ASt UU := ⟨fun u => cond (Nat.beq u 1) (.sl .rect t1) (cond (Nat.beq u 5) (.osl 35 0) (cond (Nat.beq u 7) (.int .i64 t7) (.any))), fun u => cond (Nat.beq u 35) (some (.row .rect 0 l35)) (none)⟩
def g_ref01_Both_e (a0 : List Rect) (a1 : List Rect) (Q : List Rect → Prop) (i0 : List Rect → List Rect → Int → List Rect → Prop) : Prop := i0 a0 a1 0 ([])
def g_ref01_Both_s0 (rec : List Rect → List Rect → Int → List Rect → Prop) (x0 : List Rect → List Rect → Int → List Rect → Prop) (t0 : List Rect) (t1 : List Rect) (t6 : Int) (l35 : List Rect) : Prop := cond (decide (t6 < (t0.length : Int))) ((let e0 := (t0.getD t6.toNat default); (((0 ≤ t6 ∧ t6 < t0.length) ∧ ((l35.length + ([e0]).length) * 32 ≤ 140737488355328)) ∧ rec t0 t1 (w64 (t6 + 1)) (l35 ++ ([e0]))))) (x0 t0 t1 t6 l35)
def g_ref01_Both_c0_0 (Q : List Rect → Prop) (t0 : List Rect) (t1 : List Rect) (t6 : Int) (l35 : List Rect) (i1 : List Rect → Int → List Rect → Prop) : Prop := i1 t1 0 l35
def g_ref01_Both_s1 (rec : List Rect → Int → List Rect → Prop) (x0 : List Rect → Int → List Rect → Prop) (t1 : List Rect) (t7 : Int) (l35 : List Rect) : Prop := cond (decide (t7 < (t1.length : Int))) ((let e0 := (t1.getD t7.toNat default); (((0 ≤ t7 ∧ t7 < t1.length) ∧ ((l35.length + ([e0]).length) * 32 ≤ 140737488355328)) ∧ rec t1 (w64 (t7 + 1)) (l35 ++ ([e0]))))) (x0 t1 t7 l35)
def g_ref01_Both_c1_0 (Q : List Rect → Prop) (t1 : List Rect) (t7 : Int) (l35 : List Rect) : Prop := Q l35
def w_ref01_Both_1 (F : Nat) (x0 : List Rect → Int → List Rect → Prop) : Nat → List Rect → Int → List Rect → Prop
  | 0, _, _, _ => False
  | n + 1, t1, t7, l35 => g_ref01_Both_s1 (w_ref01_Both_1 F x0 n) x0 t1 t7 l35
def n_ref01_Both_1 (F : Nat) (Q : List Rect → Prop) (t1 : List Rect) (t7 : Int) (l35 : List Rect) : Prop := w_ref01_Both_1 F (fun t1 t7 l35 => g_ref01_Both_c1_0 Q t1 t7 l35) F t1 t7 l35
def w_ref01_Both_0 (F : Nat) (x0 : List Rect → List Rect → Int → List Rect → Prop) : Nat → List Rect → List Rect → Int → List Rect → Prop
  | 0, _, _, _, _ => False
  | n + 1, t0, t1, t6, l35 => g_ref01_Both_s0 (w_ref01_Both_0 F x0 n) x0 t0 t1 t6 l35
def n_ref01_Both_0 (F : Nat) (Q : List Rect → Prop) (t0 : List Rect) (t1 : List Rect) (t6 : Int) (l35 : List Rect) : Prop := w_ref01_Both_0 F (fun t0 t1 t6 l35 => g_ref01_Both_c0_0 Q t0 t1 t6 l35 (n_ref01_Both_1 F Q)) F t0 t1 t6 l35
def w_ref01_Both (F : Nat) (a0 : List Rect) (a1 : List Rect) (Q : List Rect → Prop) : Prop := g_ref01_Both_e a0 a1 Q (n_ref01_Both_0 F Q)
end
end Go.Proofs.Ytohecfbnmmgimaa

namespace Go.Proofs.Ytohecfbnmmgimaa
open Go.Vm Go.RowKit
set_option linter.unusedVariables false
noncomputable section

def pre_ref01_insert (l : List Int) (a : Int) : Prop := l.length ≤ 100000 ∧ asc l
def sp_ref01_insert (l : List Int) (a : Int) : List Int := insR l a
theorem lp_rins1 (F : Nat) (x0 : List Int → Int → List Int → Bool → Int → List Int → Prop) (x1 : List Int → Int → Bool → Int → List Int → Prop) (l : List Int) (a : Int) (hl : l.length ≤ 100000) : ∀ (n i : Nat) (o : List Int), i ≤ l.length → l.length < i + n →
    o.length ≤ i + 1 → (∀ b ∈ l.drop i, a < b) → x1 l a true l.length (o ++ l.drop i) → w_ref01_insert_0 F x0 x1 n l a true i o := by
  intro n
  induction n with
  | zero => intro i o h1 h2; omega
  | succ n ih =>
    intro i o h1 h2 ho hb e
    show g_ref01_insert_s0 (w_ref01_insert_0 F x0 x1 n) x0 x1 l a true i o
    unfold g_ref01_insert_s0
    by_cases h : i < l.length
    · rw [dec_t (by omega), cond_true, Int.toNat_natCast, w64_succ h (by omega)]
      rw [drop_getD l i h] at e hb
      have hba := hb _ (List.mem_cons_self ..)
      have hb' := fun b hx => hb b (List.mem_cons_of_mem _ hx)
      revert e hba
      generalize l.getD i default = b
      intro e hba
      dsimp only
      refine ⟨by omega, ?_⟩
      have hne : (b == a) = false := by simp; omega
      rw [hne, cond_false]
      refine ⟨fun _ => by omega, ?_⟩
      rw [Bool.not_true, Bool.false_and, cond_false]
      refine ⟨⟨by omega, by simp only [List.length_cons, List.length_nil]; omega⟩, ?_⟩
      refine ih _ _ (by omega) (by omega) (by simp; omega) hb' ?_
      rw [List.append_assoc]
      exact e
    · rw [dec_f (by omega), cond_false]
      have he : i = l.length := by omega
      subst he
      rw [List.drop_length, List.append_nil] at e
      exact e
theorem lp_rins0 (F : Nat) (x0 : List Int → Int → List Int → Bool → Int → List Int → Prop) (x1 : List Int → Int → Bool → Int → List Int → Prop) (l : List Int) (a : Int) (hl : l.length ≤ 100000)
    (e0 : insR l a = l → ∀ j o, x0 l a l false j o) (e1 : ∀ (d : Bool) o, cond d o (o ++ [a]) = insR l a → (d = false → o.length ≤ 100000) → x1 l a d l.length o) : ∀ (n i : Nat) (o : List Int), i ≤ l.length → l.length < i + n →
    o.length = i → asc (l.drop i) → o ++ l.drop i = l → o ++ insR (l.drop i) a = insR l a → w_ref01_insert_0 F x0 x1 n l a false i o := by
  intro n
  induction n with
  | zero => intro i o h1 h2; omega
  | succ n ih =>
    intro i o h1 h2 ho ha q1 q2
    show g_ref01_insert_s0 (w_ref01_insert_0 F x0 x1 n) x0 x1 l a false i o
    unfold g_ref01_insert_s0
    by_cases h : i < l.length
    · rw [dec_t (by omega), cond_true, Int.toNat_natCast, w64_succ h (by omega)]
      rw [drop_getD l i h] at ha q1 q2
      have ha' := List.pairwise_cons.1 ha
      revert q1 q2 ha' ha
      generalize l.getD i default = b
      intro ha q1 q2 ha'
      dsimp only
      refine ⟨by omega, ?_⟩
      rw [show insR (b :: l.drop (i + 1)) a = if b < a then b :: insR (l.drop (i + 1)) a else if b = a then b :: l.drop (i + 1) else a :: b :: l.drop (i + 1) from rfl] at q2
      by_cases hba : b = a
      · subst hba
        rw [beq_self_eq_true, cond_true]
        rw [if_neg (by omega), if_pos rfl, q1] at q2
        exact e0 q2.symm _ _
      · have hne : (b == a) = false := by simpa using hba
        rw [hne, cond_false]
        refine ⟨fun _ => by omega, ?_⟩
        rw [Bool.not_false, Bool.true_and]
        by_cases hab : a < b
        · rw [dec_t hab, cond_true]
          rw [if_neg (by omega), if_neg hba] at q2
          refine ⟨by simp only [List.length_cons, List.length_nil]; omega, ⟨by omega, by simp only [List.length_append, List.length_cons, List.length_nil]; omega⟩, ?_⟩
          refine lp_rins1 F x0 x1 l a hl n _ _ (by omega) (by omega) (by simp; omega) (fun c hc => ?_) ?_
          · have := ha'.1 c hc
            omega
          · refine e1 true _ ?_ (by intro h; cases h)
            rw [cond_true, List.append_assoc, List.append_assoc]
            exact q2
        · rw [dec_f hab, cond_false]
          rw [if_pos (by omega)] at q2
          refine ⟨⟨by omega, by simp only [List.length_cons, List.length_nil]; omega⟩, ?_⟩
          refine ih _ _ (by omega) (by omega) (by simp; omega) ha'.2 ?_ ?_
          · rw [List.append_assoc]
            exact q1
          · rw [List.append_assoc]
            exact q2
    · rw [dec_f (by omega), cond_false]
      have he : i = l.length := by omega
      subst he
      rw [List.drop_length] at q2
      exact e1 false _ q2 (fun _ => by omega)
theorem ok_ref01_insert (a0 : List Int) (a1 : Int) (h : pre_ref01_insert a0 a1) : ∃ F, ∀ Q : List Int → Prop, Q (sp_ref01_insert a0 a1) → w_ref01_insert F a0 a1 Q := by
  refine ⟨100001, fun Q hQ => ?_⟩
  unfold w_ref01_insert g_ref01_insert_e n_ref01_insert_0
  unfold sp_ref01_insert at hQ
  refine lp_rins0 100001 _ _ a0 a1 h.1 (fun e j o => ?_) (fun d o e hd => ?_) 100001 0 [] (by omega) (by have := h.1; omega) rfl h.2 rfl rfl
  · rw [e] at hQ
    exact hQ
  · rw [← e] at hQ
    show g_ref01_insert_c0_1 _ _ _ _ _ _
    unfold g_ref01_insert_c0_1
    cases d
    · rw [Bool.not_false, cond_true]
      have := hd rfl
      exact ⟨by simp only [List.length_cons, List.length_nil]; omega, hQ⟩
    · rw [Bool.not_true, cond_false]
      exact hQ

def pre_ref01_covers (l : List Rect) (x y : Int) : Prop := l.length ≤ 1000 ∧ ∀ r ∈ l, vR r = true
def sp_ref01_covers (l : List Rect) (x y : Int) : Bool := covB l x y
theorem lp_rcov (F : Nat) (x0 x1 : List Rect → Int → Int → Bool → Int → Prop) (l : List Rect) (a b : Int) (t : Bool) (hl : l.length ≤ 1000) (hv : ∀ r ∈ l, vR r = true) : ∀ (n i : Nat), i ≤ l.length → l.length < i + n →
    (covB (l.drop i) a b = true → ∀ j, x0 l a b true j) → (covB (l.drop i) a b = false → x1 l a b t l.length) → w_ref01_covers_0 F x0 x1 n l a b t i := by
  intro n
  induction n with
  | zero => intro i h1 h2; omega
  | succ n ih =>
    intro i h1 h2 e0 e1
    show g_ref01_covers_s0 (w_ref01_covers_0 F x0 x1 n) x0 x1 l a b t i
    unfold g_ref01_covers_s0
    by_cases h : i < l.length
    · rw [dec_t (by omega), cond_true, Int.toNat_natCast, w64_succ h (by omega)]
      have hm : l.getD i default ∈ l := by simp [List.getD, h]
      have hr := (vR_iff _).1 (hv _ hm)
      have hi := ih (i + 1) (by omega) (by omega)
      rw [drop_getD l i h] at e0 e1
      revert e0 e1 hr
      generalize l.getD i default = r
      intro e0 e1 hr
      dsimp only
      rw [w64_of (n := r.X + r.W) (by omega) (by omega), w64_of (n := r.Y + r.H) (by omega) (by omega)]
      have ec : covB (r :: l.drop (i + 1)) a b = (inB r a b || covB (l.drop (i + 1)) a b) := rfl
      rw [ec] at e0 e1
      have hrec : inB r a b = false → w_ref01_covers_0 F x0 x1 n l a b t ((i + 1 : Nat) : Int) := fun hf => by
        rw [hf, Bool.false_or] at e0 e1
        exact hi e0 e1
      have hb : 0 ≤ (i : Int) ∧ (i : Int) < l.length := by omega
      unfold inB at e0 hrec
      refine ⟨hb, ?_⟩
      by_cases c1 : r.X ≤ a
      · rw [dec_t c1, cond_true]
        rw [dec_t c1] at e0 hrec
        refine ⟨hb, hb, ?_⟩
        by_cases c2 : a < r.X + r.W
        · rw [dec_t c2, cond_true]
          rw [dec_t c2] at e0 hrec
          refine ⟨hb, ?_⟩
          by_cases c3 : r.Y ≤ b
          · rw [dec_t c3, cond_true]
            rw [dec_t c3] at e0 hrec
            refine ⟨hb, hb, ?_⟩
            by_cases c4 : b < r.Y + r.H
            · rw [dec_t c4, cond_true]
              rw [dec_t c4] at e0
              exact e0 rfl _
            · rw [dec_f c4, cond_false]
              rw [dec_f c4] at hrec
              exact hrec rfl
          · rw [dec_f c3, cond_false]
            rw [dec_f c3] at hrec
            exact hrec rfl
        · rw [dec_f c2, cond_false]
          rw [dec_f c2] at hrec
          exact hrec rfl
      · rw [dec_f c1, cond_false]
        rw [dec_f c1] at hrec
        exact hrec rfl
    · rw [dec_f (by omega), cond_false]
      have he : i = l.length := by omega
      subst he
      rw [List.drop_length] at e1
      exact e1 rfl
theorem ok_ref01_covers (a0 : List Rect) (a1 : Int) (a2 : Int) (h : pre_ref01_covers a0 a1 a2) : ∃ F, ∀ Q : Bool → Prop, Q (sp_ref01_covers a0 a1 a2) → w_ref01_covers F a0 a1 a2 Q := by
  refine ⟨1001, fun Q hQ => ?_⟩
  unfold w_ref01_covers g_ref01_covers_e n_ref01_covers_0
  unfold sp_ref01_covers at hQ
  refine lp_rcov 1001 _ _ a0 a1 a2 _ h.1 h.2 1001 0 (by omega) (by have := h.1; omega) (fun e j => ?_) (fun e => ?_)
  all_goals
    rw [List.drop_zero] at e
    rw [e] at hQ
    exact hQ

def pre_ref01_Both (l m : List Rect) : Prop := l.length ≤ 1000 ∧ m.length ≤ 1000
def sp_ref01_Both (l m : List Rect) : List Rect := l ++ m
theorem lp_both1 (F : Nat) (x0 : List Rect → Int → List Rect → Prop) (m : List Rect) (hm : m.length ≤ 1000) : ∀ (n i : Nat) (o : List Rect), i ≤ m.length → m.length < i + n → o.length ≤ 1000 + i →
    x0 m m.length (o ++ m.drop i) → w_ref01_Both_1 F x0 n m i o := by
  intro n
  induction n with
  | zero => intro i o h1 h2; omega
  | succ n ih =>
    intro i o h1 h2 ho e
    show g_ref01_Both_s1 (w_ref01_Both_1 F x0 n) x0 m i o
    unfold g_ref01_Both_s1
    by_cases h : i < m.length
    · rw [dec_t (by omega), cond_true, Int.toNat_natCast, w64_succ h (by omega)]
      rw [drop_getD m i h] at e
      refine ⟨⟨by omega, by simp only [List.length_cons, List.length_nil]; omega⟩, ih _ _ (by omega) (by omega) (by simp; omega) ?_⟩
      rw [List.append_assoc]
      exact e
    · rw [dec_f (by omega), cond_false]
      have he : i = m.length := by omega
      subst he
      rw [List.drop_length, List.append_nil] at e
      exact e
theorem lp_both0 (F : Nat) (x0 : List Rect → List Rect → Int → List Rect → Prop) (m t1 : List Rect) (hm : m.length ≤ 1000) : ∀ (n i : Nat) (o : List Rect), i ≤ m.length → m.length < i + n → o.length ≤ i →
    x0 m t1 m.length (o ++ m.drop i) → w_ref01_Both_0 F x0 n m t1 i o := by
  intro n
  induction n with
  | zero => intro i o h1 h2; omega
  | succ n ih =>
    intro i o h1 h2 ho e
    show g_ref01_Both_s0 (w_ref01_Both_0 F x0 n) x0 m t1 i o
    unfold g_ref01_Both_s0
    by_cases h : i < m.length
    · rw [dec_t (by omega), cond_true, Int.toNat_natCast, w64_succ h (by omega)]
      rw [drop_getD m i h] at e
      refine ⟨⟨by omega, by simp only [List.length_cons, List.length_nil]; omega⟩, ih _ _ (by omega) (by omega) (by simp; omega) ?_⟩
      rw [List.append_assoc]
      exact e
    · rw [dec_f (by omega), cond_false]
      have he : i = m.length := by omega
      subst he
      rw [List.drop_length, List.append_nil] at e
      exact e
theorem ok_ref01_Both (a0 : List Rect) (a1 : List Rect) (h : pre_ref01_Both a0 a1) : ∃ F, ∀ Q : List Rect → Prop, Q (sp_ref01_Both a0 a1) → w_ref01_Both F a0 a1 Q := by
  refine ⟨1001, fun Q hQ => ?_⟩
  have h1 := h.1
  have h2 := h.2
  unfold w_ref01_Both g_ref01_Both_e n_ref01_Both_0
  refine lp_both0 1001 _ a0 a1 h.1 1001 0 [] (by omega) (by omega) (by simp) ?_
  rw [List.drop_zero, List.nil_append]
  exact lp_both1 1001 _ a1 h.2 1001 0 a0 (by omega) (by omega) (by omega) (by rw [List.drop_zero]; exact hQ)
end
end Go.Proofs.Ytohecfbnmmgimaa

namespace Go.Proofs.Ytohecfbnmmgimaa
open Go.Vm Go.RowKit
set_option linter.unusedVariables false
noncomputable section
/-! ### sheetmetal/sheetmetalref01.MakeGrid -/
def M_ref01_MakeGrid : Nat → Nat → Canon UU := fun b r => cond (Nat.beq b 0) ⟨[0, 1, 4, 5, 6], [4, 5], [], [(.cell 5 0, .int), (.cell 5 1, .int)], []⟩ (cond (Nat.beq b 2) ⟨[1, 4, 5, 7], [4, 5], [(.cell 5 2, 96, .bools)], [], [96]⟩ (cond (Nat.beq b 4) ⟨[1, 4, 5, 7, 8, 9], [4, 5], [(.tmp 8, 96, .bool), (.cell 5 2, 97, .bools)], [], [97]⟩ (⟨[], [], [], [], []⟩)))
def st_ref01_MakeGrid_0 (t0 : List Rect) (t1 : List Rect) (t6 : Int) (c5_0 : List Int) (c5_1 : List Int) : ASt UU := ⟨fun u => cond (Nat.beq u 0) (.sl .rect t0) (cond (Nat.beq u 1) (.sl .rect t1) (cond (Nat.beq u 4) (.ptr 4 0) (cond (Nat.beq u 5) (.ptr 5 0) (cond (Nat.beq u 6) (.int .i64 t6) (.any))))), fun u => cond (Nat.beq u 4) (some (.cells [.nils, .nils, .nils])) (cond (Nat.beq u 5) (some (.cells [.sl .int c5_0, .sl .int c5_1, .nils])) (none))⟩
def st_ref01_MakeGrid_1 (t1 : List Rect) (t7 : Int) (c5_0 : List Int) (c5_1 : List Int) (l96 : List (List Bool)) : ASt UU := ⟨fun u => cond (Nat.beq u 1) (.sl .rect t1) (cond (Nat.beq u 4) (.ptr 4 0) (cond (Nat.beq u 5) (.ptr 5 0) (cond (Nat.beq u 7) (.int .i64 t7) (.any)))), fun u => cond (Nat.beq u 96) (some (.deep .bools 0 0 l96)) (cond (Nat.beq u 4) (some (.cells [.nils, .nils, .nils])) (cond (Nat.beq u 5) (some (.cells [.sl .int c5_0, .sl .int c5_1, .osl 96 0])) (none)))⟩
def st_ref01_MakeGrid_2 (t1 : List Rect) (t7 : Int) (t9 : Int) (c5_0 : List Int) (c5_1 : List Int) (l96 : List Bool) (l97 : List (List Bool)) : ASt UU := ⟨fun u => cond (Nat.beq u 1) (.sl .rect t1) (cond (Nat.beq u 4) (.ptr 4 0) (cond (Nat.beq u 5) (.ptr 5 0) (cond (Nat.beq u 7) (.int .i64 t7) (cond (Nat.beq u 8) (.osl 96 0) (cond (Nat.beq u 9) (.int .i64 t9) (.any)))))), fun u => cond (Nat.beq u 96) (some (.row .bool 0 l96)) (cond (Nat.beq u 97) (some (.deep .bools 0 0 l97)) (cond (Nat.beq u 4) (some (.cells [.nils, .nils, .nils])) (cond (Nat.beq u 5) (some (.cells [.sl .int c5_0, .sl .int c5_1, .osl 97 0])) (none))))⟩
def g_ref01_MakeGrid_e (a0 : List Rect) (a1 : List Rect) (Q : List Int → List Int → List (List Bool) → Prop) (i0 : List Rect → List Rect → Int → List Int → List Int → Prop) : Prop := i0 a0 a1 0 ([]) ([])
def g_ref01_MakeGrid_s0 (rec : List Rect → List Rect → Int → List Int → List Int → Prop) (x0 : List Rect → List Rect → Int → List Int → List Int → Prop) (t0 : List Rect) (t1 : List Rect) (t6 : Int) (c5_0 : List Int) (c5_1 : List Int) : Prop := cond (decide (t6 < (t0.length : Int))) ((let e0 := (t0.getD t6.toNat default); ((0 ≤ t6 ∧ t6 < t0.length) ∧ ((pre_ref01_insert c5_0 e0.X) ∧ (let e1 := (t0.getD t6.toNat default); ((0 ≤ t6 ∧ t6 < t0.length) ∧ (let e2 := (t0.getD t6.toNat default); ((0 ≤ t6 ∧ t6 < t0.length) ∧ (let r3 := (sp_ref01_insert (sp_ref01_insert c5_0 e0.X) (w64 (e1.X + e2.W))); ((pre_ref01_insert (sp_ref01_insert c5_0 e0.X) (w64 (e1.X + e2.W))) ∧ (let e4 := (t0.getD t6.toNat default); ((0 ≤ t6 ∧ t6 < t0.length) ∧ ((pre_ref01_insert c5_1 e4.Y) ∧ (let e5 := (t0.getD t6.toNat default); ((0 ≤ t6 ∧ t6 < t0.length) ∧ (let e6 := (t0.getD t6.toNat default); ((0 ≤ t6 ∧ t6 < t0.length) ∧ (let r7 := (sp_ref01_insert (sp_ref01_insert c5_1 e4.Y) (w64 (e5.Y + e6.H))); ((pre_ref01_insert (sp_ref01_insert c5_1 e4.Y) (w64 (e5.Y + e6.H))) ∧ rec t0 t1 (w64 (t6 + 1)) r3 r7))))))))))))))))))) (x0 t0 t1 t6 c5_0 c5_1)
def g_ref01_MakeGrid_c0_0 (Q : List Int → List Int → List (List Bool) → Prop) (t0 : List Rect) (t1 : List Rect) (t6 : Int) (c5_0 : List Int) (c5_1 : List Int) (i1 : List Rect → Int → List Int → List Int → List (List Bool) → Prop) : Prop := i1 t1 0 c5_0 c5_1 ([])
def g_ref01_MakeGrid_s1 (rec : List Rect → Int → List Int → List Int → List (List Bool) → Prop) (x0 : List Rect → Int → List Int → List Int → List (List Bool) → Prop) (t1 : List Rect) (t7 : Int) (c5_0 : List Int) (c5_1 : List Int) (l96 : List (List Bool)) (i2 : List Rect → Int → Int → List Int → List Int → List Bool → List (List Bool) → Prop) : Prop := cond (decide ((w64 (t7 + 1)) < (c5_0.length : Int))) (i2 t1 t7 0 c5_0 c5_1 ([]) l96) (x0 t1 t7 c5_0 c5_1 l96)
def g_ref01_MakeGrid_c1_0 (Q : List Int → List Int → List (List Bool) → Prop) (t1 : List Rect) (t7 : Int) (c5_0 : List Int) (c5_1 : List Int) (l96 : List (List Bool)) : Prop := Q c5_0 c5_1 l96
def g_ref01_MakeGrid_s2 (rec : List Rect → Int → Int → List Int → List Int → List Bool → List (List Bool) → Prop) (x0 : List Rect → Int → Int → List Int → List Int → List Bool → List (List Bool) → Prop) (t1 : List Rect) (t7 : Int) (t9 : Int) (c5_0 : List Int) (c5_1 : List Int) (l96 : List Bool) (l97 : List (List Bool)) : Prop := cond (decide ((w64 (t9 + 1)) < (c5_1.length : Int))) ((let e0 := (c5_0.getD t7.toNat default); ((0 ≤ t7 ∧ t7 < c5_0.length) ∧ (let e1 := (c5_1.getD t9.toNat default); ((0 ≤ t9 ∧ t9 < c5_1.length) ∧ ((pre_ref01_covers t1 e0 e1) ∧ (((l96.length + ([(sp_ref01_covers t1 e0 e1)]).length) * 1 ≤ 140737488355328) ∧ rec t1 t7 (w64 (t9 + 1)) c5_0 c5_1 (l96 ++ ([(sp_ref01_covers t1 e0 e1)])) l97))))))) (x0 t1 t7 t9 c5_0 c5_1 l96 l97)
def g_ref01_MakeGrid_c2_0 (rec : List Rect → Int → List Int → List Int → List (List Bool) → Prop) (x0 : List Rect → Int → List Int → List Int → List (List Bool) → Prop) (t1 : List Rect) (t7 : Int) (t9 : Int) (c5_0 : List Int) (c5_1 : List Int) (l96 : List Bool) (l97 : List (List Bool)) : Prop := (((l97.length + ([l96]).length) * 24 ≤ 140737488355328) ∧ rec t1 (w64 (t7 + 1)) c5_0 c5_1 (l97 ++ ([l96])))
def w_ref01_MakeGrid_2 (F : Nat) (x0 : List Rect → Int → Int → List Int → List Int → List Bool → List (List Bool) → Prop) : Nat → List Rect → Int → Int → List Int → List Int → List Bool → List (List Bool) → Prop
  | 0, _, _, _, _, _, _, _ => False
  | n + 1, t1, t7, t9, c5_0, c5_1, l96, l97 => g_ref01_MakeGrid_s2 (w_ref01_MakeGrid_2 F x0 n) x0 t1 t7 t9 c5_0 c5_1 l96 l97
def n_ref01_MakeGrid_2 (F : Nat) (rec : List Rect → Int → List Int → List Int → List (List Bool) → Prop) (x0 : List Rect → Int → List Int → List Int → List (List Bool) → Prop) (t1 : List Rect) (t7 : Int) (t9 : Int) (c5_0 : List Int) (c5_1 : List Int) (l96 : List Bool) (l97 : List (List Bool)) : Prop := w_ref01_MakeGrid_2 F (fun t1 t7 t9 c5_0 c5_1 l96 l97 => g_ref01_MakeGrid_c2_0 rec x0 t1 t7 t9 c5_0 c5_1 l96 l97) F t1 t7 t9 c5_0 c5_1 l96 l97
def w_ref01_MakeGrid_1 (F : Nat) (x0 : List Rect → Int → List Int → List Int → List (List Bool) → Prop) : Nat → List Rect → Int → List Int → List Int → List (List Bool) → Prop
  | 0, _, _, _, _, _ => False
  | n + 1, t1, t7, c5_0, c5_1, l96 => g_ref01_MakeGrid_s1 (w_ref01_MakeGrid_1 F x0 n) x0 t1 t7 c5_0 c5_1 l96 (n_ref01_MakeGrid_2 F (w_ref01_MakeGrid_1 F x0 n) x0)
def n_ref01_MakeGrid_1 (F : Nat) (Q : List Int → List Int → List (List Bool) → Prop) (t1 : List Rect) (t7 : Int) (c5_0 : List Int) (c5_1 : List Int) (l96 : List (List Bool)) : Prop := w_ref01_MakeGrid_1 F (fun t1 t7 c5_0 c5_1 l96 => g_ref01_MakeGrid_c1_0 Q t1 t7 c5_0 c5_1 l96) F t1 t7 c5_0 c5_1 l96
def w_ref01_MakeGrid_0 (F : Nat) (x0 : List Rect → List Rect → Int → List Int → List Int → Prop) : Nat → List Rect → List Rect → Int → List Int → List Int → Prop
  | 0, _, _, _, _, _ => False
  | n + 1, t0, t1, t6, c5_0, c5_1 => g_ref01_MakeGrid_s0 (w_ref01_MakeGrid_0 F x0 n) x0 t0 t1 t6 c5_0 c5_1
def n_ref01_MakeGrid_0 (F : Nat) (Q : List Int → List Int → List (List Bool) → Prop) (t0 : List Rect) (t1 : List Rect) (t6 : Int) (c5_0 : List Int) (c5_1 : List Int) : Prop := w_ref01_MakeGrid_0 F (fun t0 t1 t6 c5_0 c5_1 => g_ref01_MakeGrid_c0_0 Q t0 t1 t6 c5_0 c5_1 (n_ref01_MakeGrid_1 F Q)) F t0 t1 t6 c5_0 c5_1
def w_ref01_MakeGrid (F : Nat) (a0 : List Rect) (a1 : List Rect) (Q : List Int → List Int → List (List Bool) → Prop) : Prop := g_ref01_MakeGrid_e a0 a1 Q (n_ref01_MakeGrid_0 F Q)
/-! ### (sheetmetal/sheetmetalref01.Grid).Size -/
def M_ref01_Grid_Size : Nat → Nat → Canon UU := fun b r => cond (Nat.beq b 0) ⟨[1, 3, 4], [1], [], [], []⟩ (cond (Nat.beq b 2) ⟨[1, 3, 4, 5], [1], [], [], []⟩ (⟨[], [], [], [], []⟩))
def st_ref01_Grid_Size_0 (t3 : Int) (t4 : Int) (c1_0 : List Int) (c1_1 : List Int) (c1_2 : List (List Bool)) : ASt UU := ⟨fun u => cond (Nat.beq u 1) (.ptr 1 0) (cond (Nat.beq u 3) (.int .i64 t3) (cond (Nat.beq u 4) (.int .i64 t4) (.any))), fun u => cond (Nat.beq u 1) (some (.cells [.sl .int c1_0, .sl .int c1_1, .sl .bools c1_2])) (none)⟩
def st_ref01_Grid_Size_1 (t3 : Int) (t4 : Int) (t5 : Int) (c1_0 : List Int) (c1_1 : List Int) (c1_2 : List (List Bool)) : ASt UU := ⟨fun u => cond (Nat.beq u 1) (.ptr 1 0) (cond (Nat.beq u 3) (.int .i64 t3) (cond (Nat.beq u 4) (.int .i64 t4) (cond (Nat.beq u 5) (.int .i64 t5) (.any)))), fun u => cond (Nat.beq u 1) (some (.cells [.sl .int c1_0, .sl .int c1_1, .sl .bools c1_2])) (none)⟩
def g_ref01_Grid_Size_e (a0_X : List Int) (a0_Y : List Int) (a0_On : List (List Bool)) (Q : Int → Prop) (i0 : Int → Int → List Int → List Int → List (List Bool) → Prop) : Prop := i0 0 0 a0_X a0_Y a0_On
def g_ref01_Grid_Size_s0 (rec : Int → Int → List Int → List Int → List (List Bool) → Prop) (x0 : Int → Int → List Int → List Int → List (List Bool) → Prop) (t3 : Int) (t4 : Int) (c1_0 : List Int) (c1_1 : List Int) (c1_2 : List (List Bool)) (i1 : Int → Int → Int → List Int → List Int → List (List Bool) → Prop) : Prop := cond (decide (t4 < (c1_2.length : Int))) (i1 t3 t4 0 c1_0 c1_1 c1_2) (x0 t3 t4 c1_0 c1_1 c1_2)
def g_ref01_Grid_Size_c0_0 (Q : Int → Prop) (t3 : Int) (t4 : Int) (c1_0 : List Int) (c1_1 : List Int) (c1_2 : List (List Bool)) : Prop := Q t3
def g_ref01_Grid_Size_s1 (rec : Int → Int → Int → List Int → List Int → List (List Bool) → Prop) (x0 : Int → Int → Int → List Int → List Int → List (List Bool) → Prop) (t3 : Int) (t4 : Int) (t5 : Int) (c1_0 : List Int) (c1_1 : List Int) (c1_2 : List (List Bool)) : Prop := (let e0 := (c1_2.getD t4.toNat default); ((0 ≤ t4 ∧ t4 < c1_2.length) ∧ cond (decide (t5 < (e0.length : Int))) ((let e1 := (c1_2.getD t4.toNat default); (let e2 := (e1.getD t5.toNat default); (((0 ≤ t4 ∧ t4 < c1_2.length) ∧ (0 ≤ t5 ∧ t5 < e1.length)) ∧ cond e2 ((let e3 := (c1_0.getD ((w64 (t4 + 1)).toNat) default); ((0 ≤ (w64 (t4 + 1)) ∧ (w64 (t4 + 1)) < c1_0.length) ∧ (let e4 := (c1_0.getD t4.toNat default); ((0 ≤ t4 ∧ t4 < c1_0.length) ∧ (let e5 := (c1_1.getD ((w64 (t5 + 1)).toNat) default); ((0 ≤ (w64 (t5 + 1)) ∧ (w64 (t5 + 1)) < c1_1.length) ∧ (let e6 := (c1_1.getD t5.toNat default); ((0 ≤ t5 ∧ t5 < c1_1.length) ∧ (let v7 := w64 (t3 + (w64 ((w64 (e3 - e4)) * (w64 (e5 - e6))))); rec v7 t4 (w64 (t5 + 1)) c1_0 c1_1 c1_2)))))))))) (rec t3 t4 (w64 (t5 + 1)) c1_0 c1_1 c1_2))))) (x0 t3 t4 t5 c1_0 c1_1 c1_2)))
def g_ref01_Grid_Size_c1_0 (rec : Int → Int → List Int → List Int → List (List Bool) → Prop) (x0 : Int → Int → List Int → List Int → List (List Bool) → Prop) (t3 : Int) (t4 : Int) (t5 : Int) (c1_0 : List Int) (c1_1 : List Int) (c1_2 : List (List Bool)) : Prop := rec t3 (w64 (t4 + 1)) c1_0 c1_1 c1_2
def w_ref01_Grid_Size_1 (F : Nat) (x0 : Int → Int → Int → List Int → List Int → List (List Bool) → Prop) : Nat → Int → Int → Int → List Int → List Int → List (List Bool) → Prop
  | 0, _, _, _, _, _, _ => False
  | n + 1, t3, t4, t5, c1_0, c1_1, c1_2 => g_ref01_Grid_Size_s1 (w_ref01_Grid_Size_1 F x0 n) x0 t3 t4 t5 c1_0 c1_1 c1_2
def n_ref01_Grid_Size_1 (F : Nat) (rec : Int → Int → List Int → List Int → List (List Bool) → Prop) (x0 : Int → Int → List Int → List Int → List (List Bool) → Prop) (t3 : Int) (t4 : Int) (t5 : Int) (c1_0 : List Int) (c1_1 : List Int) (c1_2 : List (List Bool)) : Prop := w_ref01_Grid_Size_1 F (fun t3 t4 t5 c1_0 c1_1 c1_2 => g_ref01_Grid_Size_c1_0 rec x0 t3 t4 t5 c1_0 c1_1 c1_2) F t3 t4 t5 c1_0 c1_1 c1_2
def w_ref01_Grid_Size_0 (F : Nat) (x0 : Int → Int → List Int → List Int → List (List Bool) → Prop) : Nat → Int → Int → List Int → List Int → List (List Bool) → Prop
  | 0, _, _, _, _, _ => False
  | n + 1, t3, t4, c1_0, c1_1, c1_2 => g_ref01_Grid_Size_s0 (w_ref01_Grid_Size_0 F x0 n) x0 t3 t4 c1_0 c1_1 c1_2 (n_ref01_Grid_Size_1 F (w_ref01_Grid_Size_0 F x0 n) x0)
def n_ref01_Grid_Size_0 (F : Nat) (Q : Int → Prop) (t3 : Int) (t4 : Int) (c1_0 : List Int) (c1_1 : List Int) (c1_2 : List (List Bool)) : Prop := w_ref01_Grid_Size_0 F (fun t3 t4 c1_0 c1_1 c1_2 => g_ref01_Grid_Size_c0_0 Q t3 t4 c1_0 c1_1 c1_2) F t3 t4 c1_0 c1_1 c1_2
def w_ref01_Grid_Size (F : Nat) (a0_X : List Int) (a0_Y : List Int) (a0_On : List (List Bool)) (Q : Int → Prop) : Prop := g_ref01_Grid_Size_e a0_X a0_Y a0_On Q (n_ref01_Grid_Size_0 F Q)
end
end Go.Proofs.Ytohecfbnmmgimaa

namespace Go.Proofs.Ytohecfbnmmgimaa
open Go.Vm Go.RowKit
set_option linter.unusedVariables false
noncomputable section

def flipR (r : Rect) : Rect := Rect.mk r.Y r.X r.H r.W
def xx (s : List Int) (l : List Rect) : List Int := yx s (l.map flipR)
def gridOf (p : Int → Int → Bool) (xs ys : List Int) : List (List Bool) := xs.dropLast.map fun a => ys.dropLast.map fun b => p a b
def pre_ref01_MakeGrid (L l : List Rect) : Prop := (L.length ≤ 1000 ∧ ∀ r ∈ L, vR r = true) ∧ l.length ≤ 1000 ∧ ∀ r ∈ l, vR r = true
def sp_ref01_MakeGrid (L l : List Rect) : List Int × List Int × List (List Bool) := (xx [] L, yx [] L, gridOf (covB l) (xx [] L) (yx [] L))

theorem lp_mg0 (F : Nat) (x0 : List Rect → List Rect → Int → List Int → List Int → Prop) (L t1 : List Rect) (hL : L.length ≤ 1000) (hv : ∀ r ∈ L, vR r = true) : ∀ (n k : Nat) (p q : List Int), k ≤ L.length → L.length < k + n → p.length ≤ 2 * k → q.length ≤ 2 * k → asc p → asc q →
    x0 L t1 L.length (xx p (L.drop k)) (yx q (L.drop k)) → w_ref01_MakeGrid_0 F x0 n L t1 k p q := by
  intro n
  induction n with
  | zero => intro k p q h1 h2; omega
  | succ n ih =>
    intro k p q h1 h2 hp hq ap aq e
    show g_ref01_MakeGrid_s0 (w_ref01_MakeGrid_0 F x0 n) x0 L t1 k p q
    unfold g_ref01_MakeGrid_s0
    by_cases h : k < L.length
    · rw [dec_t (by omega), cond_true, Int.toNat_natCast, w64_succ h (by omega)]
      have hm : L.getD k default ∈ L := by simp [List.getD, h]
      have hb := (vR_iff _).1 (hv _ hm)
      have hk : 0 ≤ (k : Int) ∧ (k : Int) < L.length := by omega
      rw [drop_getD L k h] at e
      revert e hb
      generalize L.getD k default = r
      intro e hb
      dsimp only
      rw [w64_of (n := r.X + r.W) (by omega) (by omega), w64_of (n := r.Y + r.H) (by omega) (by omega)]
      have l1 := len_insR p r.X
      have l2 := len_insR (insR p r.X) (r.X + r.W)
      have l3 := len_insR q r.Y
      have l4 := len_insR (insR q r.Y) (r.Y + r.H)
      unfold pre_ref01_insert sp_ref01_insert
      refine ⟨hk, ⟨by omega, ap⟩, hk, hk, ⟨by omega, asc_insR _ _ ap⟩, hk, ⟨by omega, aq⟩, hk, hk, ⟨by omega, asc_insR _ _ aq⟩, ?_⟩
      exact ih _ _ _ (by omega) (by omega) (by omega) (by omega) (asc_insR _ _ (asc_insR _ _ ap)) (asc_insR _ _ (asc_insR _ _ aq)) e
    · rw [dec_f (by omega), cond_false]
      have he : k = L.length := by omega
      subst he
      rw [List.drop_length] at e
      exact e
theorem dropLast_getD {xs : List Int} {i : Nat} (h : i < xs.dropLast.length) : xs.dropLast.getD i default = xs.getD i default := by
  have h2 : i < xs.length - 1 := by simpa using h
  simp [List.getD, h2, show i < xs.length by omega]
theorem dropLast_len (xs : List Int) : xs.dropLast.length = xs.length - 1 := by simp
theorem lp_mg2 (F : Nat) (x0 : List Rect → Int → Int → List Int → List Int → List Bool → List (List Bool) → Prop) (l : List Rect) (hl : l.length ≤ 1000 ∧ ∀ r ∈ l, vR r = true) (xs ys : List Int) (i : Nat) (hi : i < xs.length) (hy : ys.length ≤ 1000000) (L : List (List Bool)) : ∀ (n j : Nat) (o : List Bool), j ≤ ys.dropLast.length → ys.dropLast.length < j + n → o.length ≤ j →
    x0 l i ys.dropLast.length xs ys (o ++ (ys.dropLast.drop j).map (covB l (xs.getD i default))) L → w_ref01_MakeGrid_2 F x0 n l i j xs ys o L := by
  intro n
  induction n with
  | zero => intro j o h1 h2; omega
  | succ n ih =>
    intro j o h1 h2 ho e
    have hd := dropLast_len ys
    show g_ref01_MakeGrid_s2 (w_ref01_MakeGrid_2 F x0 n) x0 l i j xs ys o L
    unfold g_ref01_MakeGrid_s2
    rw [w64_succ (n := ys.length + 1) (by omega) (by omega)]
    by_cases h : j < ys.dropLast.length
    · rw [dec_t (by omega), cond_true, Int.toNat_natCast, Int.toNat_natCast]
      have e1 : ys.dropLast.drop j = ys.getD j default :: ys.dropLast.drop (j + 1) := by
        rw [← dropLast_getD h, List.drop_eq_getElem_cons h]
        simp [List.getD, show j < ys.length - 1 by omega]
      rw [e1] at e
      refine ⟨by omega, by omega, hl, by simp only [List.length_cons, List.length_nil]; omega, ?_⟩
      refine ih _ _ (by omega) (by omega) (by simp; omega) ?_
      rw [List.append_assoc]
      exact e
    · rw [dec_f (by omega), cond_false]
      have he : j = ys.dropLast.length := by omega
      subst he
      rw [List.drop_length, List.map_nil, List.append_nil] at e
      exact e
theorem lp_mg1 (F : Nat) (hF : 1000000 < F) (x0 : List Rect → Int → List Int → List Int → List (List Bool) → Prop) (l : List Rect) (hl : l.length ≤ 1000 ∧ ∀ r ∈ l, vR r = true) (xs ys : List Int) (hx : xs.length ≤ 1000000) (hy : ys.length ≤ 1000000) : ∀ (n i : Nat) (o : List (List Bool)), i ≤ xs.dropLast.length → xs.dropLast.length < i + n → o.length ≤ i →
    x0 l xs.dropLast.length xs ys (o ++ (xs.dropLast.drop i).map (fun a => ys.dropLast.map (covB l a))) → w_ref01_MakeGrid_1 F x0 n l i xs ys o := by
  intro n
  induction n with
  | zero => intro i o h1 h2; omega
  | succ n ih =>
    intro i o h1 h2 ho e
    have hd := dropLast_len xs
    have hd' := dropLast_len ys
    show g_ref01_MakeGrid_s1 (w_ref01_MakeGrid_1 F x0 n) x0 l i xs ys o (n_ref01_MakeGrid_2 F (w_ref01_MakeGrid_1 F x0 n) x0)
    unfold g_ref01_MakeGrid_s1
    rw [w64_succ (n := xs.length + 1) (by omega) (by omega)]
    by_cases h : i < xs.dropLast.length
    · rw [dec_t (by omega), cond_true]
      have e1 : xs.dropLast.drop i = xs.getD i default :: xs.dropLast.drop (i + 1) := by
        rw [← dropLast_getD h, List.drop_eq_getElem_cons h]
        simp [List.getD, show i < xs.length - 1 by omega]
      rw [e1] at e
      refine lp_mg2 F _ l hl xs ys i (by omega) hy o F 0 [] (by omega) (by omega) (by simp) ?_
      rw [List.drop_zero, List.nil_append]
      show g_ref01_MakeGrid_c2_0 _ _ _ _ _ _ _ _ _
      unfold g_ref01_MakeGrid_c2_0
      refine ⟨by simp only [List.length_cons, List.length_nil]; omega, ?_⟩
      rw [w64_succ (n := xs.length + 1) (by omega) (by omega)]
      refine ih _ _ (by omega) (by omega) (by simp; omega) ?_
      rw [List.append_assoc]
      exact e
    · rw [dec_f (by omega), cond_false]
      have he : i = xs.dropLast.length := by omega
      subst he
      rw [List.drop_length, List.map_nil, List.append_nil] at e
      exact e
theorem xx_len (l : List Rect) : (xx [] l).length ≤ 2 * l.length := by
  have := yx_len (l.map flipR) []
  simp only [List.length_nil, List.length_map] at this
  unfold xx
  omega
theorem ok_ref01_MakeGrid (a0 : List Rect) (a1 : List Rect) (h : pre_ref01_MakeGrid a0 a1) : ∃ F, ∀ Q : List Int → List Int → List (List Bool) → Prop, Q ((sp_ref01_MakeGrid a0 a1).1) ((sp_ref01_MakeGrid a0 a1).2.1) ((sp_ref01_MakeGrid a0 a1).2.2) → w_ref01_MakeGrid F a0 a1 Q := by
  refine ⟨1000001, fun Q hQ => ?_⟩
  obtain ⟨⟨h1, h2⟩, h3⟩ := h
  unfold w_ref01_MakeGrid g_ref01_MakeGrid_e n_ref01_MakeGrid_0
  refine lp_mg0 _ _ a0 a1 h1 h2 _ 0 [] [] (by omega) (by omega) (by simp) (by simp) List.Pairwise.nil List.Pairwise.nil ?_
  rw [List.drop_zero]
  have lx := xx_len a0
  have ly := yx_len a0 []
  rw [List.length_nil] at ly
  have hd := dropLast_len (xx [] a0)
  refine lp_mg1 1000001 (by omega) _ a1 h3 _ _ (by omega) (by omega) 1000001 0 [] (by omega) (by omega) (by simp) ?_
  exact hQ

/-! ### the size of a grid -/
theorem strip_dl {f g : Int → Int} : ∀ {l : List Int}, (∀ x ∈ l.dropLast, f x = g x) → strip f l = strip g l := by
  intro l
  induction l with
  | nil => intro _; rfl
  | cons a l ih =>
    intro h
    cases l with
    | nil => rfl
    | cons b l =>
      show (b - a) * f a + strip f (b :: l) = (b - a) * g a + strip g (b :: l)
      rw [List.dropLast_cons_of_ne_nil (by simp)] at h
      rw [h a (List.mem_cons_self ..), ih (fun x hx => h x (List.mem_cons_of_mem _ hx))]
def pre_ref01_Grid_Size (X Y : List Int) (On : List (List Bool)) : Prop := (∃ p, On = gridOf p X Y) ∧ X.length ≤ 1000 ∧ Y.length ≤ 1000 ∧ asc X ∧ asc Y ∧ inM X ∧ inM Y
def sizeOf (p : Int → Int → Bool) (X Y : List Int) : Int := strip (fun x => strip (fun y => b2i (p x y)) Y) X
def sp_ref01_Grid_Size (X Y : List Int) (On : List (List Bool)) : Int := sizeOf (Classical.epsilon fun p => On = gridOf p X Y) X Y
theorem sizeOf_congr {p q : Int → Int → Bool} {X Y : List Int} (h : gridOf p X Y = gridOf q X Y) : sizeOf p X Y = sizeOf q X Y := by
  refine strip_dl fun x hx => strip_dl fun y hy => ?_
  have h1 := (List.map_inj_left.1 h) x hx
  have h2 := (List.map_inj_left.1 h1) y hy
  rw [h2]
theorem size_grid (p : Int → Int → Bool) (X Y : List Int) : sp_ref01_Grid_Size X Y (gridOf p X Y) = sizeOf p X Y := by
  have : gridOf p X Y = gridOf (Classical.epsilon fun q => gridOf p X Y = gridOf q X Y) X Y := Classical.epsilon_spec (p := fun q => gridOf p X Y = gridOf q X Y) ⟨p, rfl⟩
  exact (sizeOf_congr this).symm
theorem gridOf_row (p : Int → Int → Bool) {xs ys : List Int} {i : Nat} (hi : i + 1 < xs.length) : (gridOf p xs ys).getD i default = ys.dropLast.map (p (xs.getD i default)) := by
  unfold gridOf
  simp [List.getD, show i < xs.length - 1 by omega, show i < xs.length by omega]
theorem gridOf_len (p : Int → Int → Bool) (xs ys : List Int) : (gridOf p xs ys).length = xs.length - 1 := by unfold gridOf; simp
theorem row_at (f : Int → Bool) {ys : List Int} {j : Nat} (hj : j + 1 < ys.length) : (ys.dropLast.map f).getD j default = f (ys.getD j default) := by
  simp [List.getD, show j < ys.length - 1 by omega, show j < ys.length by omega]
theorem lp_s1 (F : Nat) (x0 : Int → Int → Int → List Int → List Int → List (List Bool) → Prop) (p : Int → Int → Bool) (s0 : Int) (i : Nat) (xs ys : List Int) (m : Nat) (hm : m = ys.length - 1) (hi : i + 1 < xs.length) (hx : xs.length ≤ 1000) (hy : ys.length ≤ 1000) (ax : asc xs) (ay : asc ys) (mx : inM xs) (my : inM ys) (hs : 0 ≤ s0 ∧ s0 ≤ 4398046511104) : ∀ (n j : Nat), j ≤ m → m < j + n →
    x0 (s0 + (xs.getD (i + 1) default - xs.getD i default) * strip (fun y => b2i (p (xs.getD i default) y)) ys) i m xs ys (gridOf p xs ys) →
    w_ref01_Grid_Size_1 F x0 n (s0 + (xs.getD (i + 1) default - xs.getD i default) * strip (fun y => b2i (p (xs.getD i default) y)) (ys.take (j + 1))) i j xs ys (gridOf p xs ys) := by
  intro n
  induction n with
  | zero => intro j h1 h2; omega
  | succ n ih =>
    intro j h1 h2 e
    show g_ref01_Grid_Size_s1 (w_ref01_Grid_Size_1 F x0 n) x0 _ i j xs ys _
    unfold g_ref01_Grid_Size_s1
    rw [Int.toNat_natCast, gridOf_row p hi]
    have hL := gridOf_len p xs ys
    have hR : ((ys.dropLast.map (p (xs.getD i default))).length : Int) = m := by simp; omega
    have hi' : 0 ≤ (i : Int) ∧ (i : Int) < (gridOf p xs ys).length := by omega
    dsimp only
    refine ⟨hi', ?_⟩
    rw [hR]
    by_cases h : j < m
    · have hw1 : w64 ((j : Int) + 1) = ((j + 1 : Nat) : Int) := w64_succ h (show m ≤ 1000000000 by omega)
      have hw2 : w64 ((i : Int) + 1) = ((i + 1 : Nat) : Int) := w64_succ (n := xs.length) (by omega) (by omega)
      have hj : j + 1 < ys.length := by omega
      rw [dec_t (by omega), cond_true, hw1, hw2, Int.toNat_natCast, Int.toNat_natCast, Int.toNat_natCast, row_at _ hj]
      have hsn := strip_snoc (fun y => b2i (p (xs.getD i default) y)) ys j hj
      have hnx := ih (j + 1) (by omega) (by omega) e
      rw [hsn] at hnx
      have sb := strip_bd (fun y => b2i (p (xs.getD i default) y)) 1 (-1048576) 1048576 (by omega) (by omega) (ys.take (j + 1)) (List.Pairwise.sublist (List.take_sublist ..) ay) (fun x _ => b2i_bd _) (fun x hx' => my x (List.mem_of_mem_take hx'))
      have p1 := mx _ (getD_memI (show i < xs.length by omega))
      have p2 := mx _ (getD_memI hi)
      have p3 := my _ (getD_memI (show j < ys.length by omega))
      have p4 := my _ (getD_memI hj)
      have q1 := asc_getD ax hi
      have q2 := asc_getD ay hj
      revert hnx sb p1 p2 p3 p4 q1 q2
      generalize strip (fun y => b2i (p (xs.getD i default) y)) (ys.take (j + 1)) = s
      generalize xs.getD (i + 1) default = x2
      generalize xs.getD i default = x1
      generalize ys.getD (j + 1) default = y2
      generalize ys.getD j default = y1
      intro hnx sb p1 p2 p3 p4 q1 q2
      have d1 := mulBd (a := x2 - x1) (b := s) (P := 2097152) (Q := 2097152) (by omega) (by omega) (by omega) (by omega)
      have d2 := mulBd (a := x2 - x1) (b := y2 - y1) (P := 2097152) (Q := 2097152) (by omega) (by omega) (by omega) (by omega)
      refine ⟨⟨hi', by simp; omega⟩, ?_⟩
      cases hf : p x1 y1
      · rw [cond_false]
        rw [hf] at hnx
        simp only [b2i, cond_false, Int.mul_zero, Int.add_zero] at hnx
        exact hnx
      · rw [cond_true]
        rw [hf] at hnx
        simp only [b2i, cond_true, Int.mul_one] at hnx
        rw [w64_of (n := x2 - x1) (by omega) (by omega), w64_of (n := y2 - y1) (by omega) (by omega), w64_of (n := (x2 - x1) * (y2 - y1)) (by omega) (by omega), w64_of (n := s0 + (x2 - x1) * s + (x2 - x1) * (y2 - y1)) (by omega) (by omega)]
        refine ⟨by omega, by omega, by omega, by omega, ?_⟩
        rw [Int.mul_add, ← Int.add_assoc] at hnx
        exact hnx
    · rw [dec_f (by omega), cond_false]
      have he : j = m := by omega
      subst he
      rw [List.take_of_length_le (by omega)]
      exact e
theorem lp_s0 (F : Nat) (hF : 1000 < F) (x0 : Int → Int → List Int → List Int → List (List Bool) → Prop) (p : Int → Int → Bool) (xs ys : List Int) (k : Nat) (hk : k = xs.length - 1) (hx : xs.length ≤ 1000) (hy : ys.length ≤ 1000) (ax : asc xs) (ay : asc ys) (mx : inM xs) (my : inM ys) : ∀ (n i : Nat), i ≤ k → k < i + n →
    x0 (sizeOf p xs ys) k xs ys (gridOf p xs ys) →
    w_ref01_Grid_Size_0 F x0 n (strip (fun x => strip (fun y => b2i (p x y)) ys) (xs.take (i + 1))) i xs ys (gridOf p xs ys) := by
  intro n
  induction n with
  | zero => intro i h1 h2; omega
  | succ n ih =>
    intro i h1 h2 e
    show g_ref01_Grid_Size_s0 (w_ref01_Grid_Size_0 F x0 n) x0 _ i xs ys _ (n_ref01_Grid_Size_1 F (w_ref01_Grid_Size_0 F x0 n) x0)
    unfold g_ref01_Grid_Size_s0
    have hL : ((gridOf p xs ys).length : Int) = k := by rw [gridOf_len]; omega
    rw [hL]
    by_cases h : i < k
    · have hi : i + 1 < xs.length := by omega
      rw [dec_t (by omega), cond_true]
      have sb := strip_bd (fun x => strip (fun y => b2i (p x y)) ys) 2097152 (-1048576) 1048576 (by omega) (by omega) (xs.take (i + 1)) (List.Pairwise.sublist (List.take_sublist ..) ax) (fun x _ => by
        have := strip_bd (fun y => b2i (p x y)) 1 (-1048576) 1048576 (by omega) (by omega) ys ay (fun x _ => b2i_bd _) my
        omega) (fun x hx' => mx x (List.mem_of_mem_take hx'))
      have hsn := strip_snoc (fun x => strip (fun y => b2i (p x y)) ys) xs i hi
      have hnx := ih (i + 1) (by omega) (by omega) e
      rw [hsn] at hnx
      have := lp_s1 F (fun t3 t4 t5 c1_0 c1_1 c1_2 => g_ref01_Grid_Size_c1_0 (w_ref01_Grid_Size_0 F x0 n) x0 t3 t4 t5 c1_0 c1_1 c1_2) p (strip (fun x => strip (fun y => b2i (p x y)) ys) (xs.take (i + 1))) i xs ys (ys.length - 1) rfl hi hx hy ax ay mx my (by omega) F 0 (by omega) (by omega) (by
        show w_ref01_Grid_Size_0 F x0 n _ (w64 _) _ _ _
        rw [w64_succ h (by omega)]
        exact hnx)
      have hz : strip (fun y => b2i (p (xs.getD i default) y)) (ys.take (0 + 1)) = 0 := by
        cases ys with
        | nil => rfl
        | cons a ys => rfl
      rw [hz, Int.mul_zero, Int.add_zero] at this
      exact this
    · rw [dec_f (by omega), cond_false]
      have he : i = k := by omega
      subst he
      rw [List.take_of_length_le (by omega)]
      exact e
theorem ok_ref01_Grid_Size (a0_X : List Int) (a0_Y : List Int) (a0_On : List (List Bool)) (h : pre_ref01_Grid_Size a0_X a0_Y a0_On) : ∃ F, ∀ Q : Int → Prop, Q (sp_ref01_Grid_Size a0_X a0_Y a0_On) → w_ref01_Grid_Size F a0_X a0_Y a0_On Q := by
  refine ⟨1001, fun Q hQ => ?_⟩
  obtain ⟨⟨p, rfl⟩, h1, h2, h3, h4, h5, h6⟩ := h
  rw [size_grid] at hQ
  unfold w_ref01_Grid_Size g_ref01_Grid_Size_e n_ref01_Grid_Size_0
  have := lp_s0 1001 (by omega) (fun t3 t4 c1_0 c1_1 c1_2 => g_ref01_Grid_Size_c0_0 Q t3 t4 c1_0 c1_1 c1_2) p a0_X a0_Y _ rfl h1 h2 h3 h4 h5 h6 1001 0 (by omega) (by omega) hQ
  have hz : strip (fun x => strip (fun y => b2i (p x y)) a0_Y) (a0_X.take (0 + 1)) = 0 := by
    cases a0_X with
    | nil => rfl
    | cons a ys => rfl
  rw [hz] at this
  exact this
end
end Go.Proofs.Ytohecfbnmmgimaa

namespace Go.Proofs.Ytohecfbnmmgimaa
open Go.Vm Go.RowKit
set_option linter.unusedVariables false
noncomputable section
/-! ### sheetmetal/sheetmetalref03.Surface -/
def M_ref03_Surface : Nat → Nat → Canon UU := fun b r => cond (Nat.beq b 0) ⟨[5, 6, 7], [5, 6], [(.cell 5 2, 59, .bools), (.cell 6 2, 60, .bools)], [], [59, 60]⟩ (cond (Nat.beq b 2) ⟨[5, 6, 7, 8], [5, 6], [(.cell 5 2, 59, .bools), (.cell 6 2, 60, .bools)], [], [59, 60]⟩ (⟨[], [], [], [], []⟩))
def st_ref03_Surface_0 (t7 : Int) (c5_0 : List Int) (c5_1 : List Int) (c6_0 : List Int) (c6_1 : List Int) (l59 : List (List Bool)) (l60 : List (List Bool)) : ASt UU := ⟨fun u => cond (Nat.beq u 5) (.ptr 5 0) (cond (Nat.beq u 6) (.ptr 6 0) (cond (Nat.beq u 7) (.int .i64 t7) (.any))), fun u => cond (Nat.beq u 59) (some (.deep .bools 0 0 l59)) (cond (Nat.beq u 60) (some (.deep .bools 0 0 l60)) (cond (Nat.beq u 5) (some (.cells [.sl .int c5_0, .sl .int c5_1, .osl 59 0])) (cond (Nat.beq u 6) (some (.cells [.sl .int c6_0, .sl .int c6_1, .osl 60 0])) (none))))⟩
def st_ref03_Surface_1 (t7 : Int) (t8 : Int) (c5_0 : List Int) (c5_1 : List Int) (c6_0 : List Int) (c6_1 : List Int) (l59 : List (List Bool)) (l60 : List (List Bool)) : ASt UU := ⟨fun u => cond (Nat.beq u 5) (.ptr 5 0) (cond (Nat.beq u 6) (.ptr 6 0) (cond (Nat.beq u 7) (.int .i64 t7) (cond (Nat.beq u 8) (.int .i64 t8) (.any)))), fun u => cond (Nat.beq u 59) (some (.deep .bools 0 0 l59)) (cond (Nat.beq u 60) (some (.deep .bools 0 0 l60)) (cond (Nat.beq u 5) (some (.cells [.sl .int c5_0, .sl .int c5_1, .osl 59 0])) (cond (Nat.beq u 6) (some (.cells [.sl .int c6_0, .sl .int c6_1, .osl 60 0])) (none))))⟩
def g_ref03_Surface_e (a0_Rects : List Rect) (a0_Cuts : List Rect) (a0_Forms : List Rect) (a0_Bends : List Bend) (Q : Int → Int → Prop) (i0 : Int → List Int → List Int → List Int → List Int → List (List Bool) → List (List Bool) → Prop) : Prop := (let r0 := (sp_ref03_Whole a0_Rects a0_Cuts a0_Forms a0_Bends); ((pre_ref03_Whole a0_Rects a0_Cuts a0_Forms a0_Bends) ∧ cond (!r0) (Q 0 1) (((pre_ref01_Both a0_Rects a0_Cuts) ∧ (let r1 := (sp_ref01_MakeGrid (sp_ref01_Both a0_Rects a0_Cuts) a0_Rects); ((pre_ref01_MakeGrid (sp_ref01_Both a0_Rects a0_Cuts) a0_Rects) ∧ (let r2 := (sp_ref01_MakeGrid (sp_ref01_Both a0_Rects a0_Cuts) a0_Cuts); ((pre_ref01_MakeGrid (sp_ref01_Both a0_Rects a0_Cuts) a0_Cuts) ∧ i0 0 r1.1 r1.2.1 r2.1 r2.2.1 r1.2.2 r2.2.2))))))))
def g_ref03_Surface_s0 (rec : Int → List Int → List Int → List Int → List Int → List (List Bool) → List (List Bool) → Prop) (x0 : Int → List Int → List Int → List Int → List Int → List (List Bool) → List (List Bool) → Prop) (t7 : Int) (c5_0 : List Int) (c5_1 : List Int) (c6_0 : List Int) (c6_1 : List Int) (l59 : List (List Bool)) (l60 : List (List Bool)) (i1 : Int → Int → List Int → List Int → List Int → List Int → List (List Bool) → List (List Bool) → Prop) : Prop := cond (decide (t7 < (l59.length : Int))) (i1 t7 0 c5_0 c5_1 c6_0 c6_1 l59 l60) (x0 t7 c5_0 c5_1 c6_0 c6_1 l59 l60)
def g_ref03_Surface_c0_0 (Q : Int → Int → Prop) (t7 : Int) (c5_0 : List Int) (c5_1 : List Int) (c6_0 : List Int) (c6_1 : List Int) (l59 : List (List Bool)) (l60 : List (List Bool)) : Prop := ((pre_ref01_Grid_Size c5_0 c5_1 l59) ∧ Q (sp_ref01_Grid_Size c5_0 c5_1 l59) 0)
def g_ref03_Surface_s1 (rec : Int → Int → List Int → List Int → List Int → List Int → List (List Bool) → List (List Bool) → Prop) (x0 : Int → Int → List Int → List Int → List Int → List Int → List (List Bool) → List (List Bool) → Prop) (t7 : Int) (t8 : Int) (c5_0 : List Int) (c5_1 : List Int) (c6_0 : List Int) (c6_1 : List Int) (l59 : List (List Bool)) (l60 : List (List Bool)) : Prop := ((0 ≤ t7 ∧ t7 < l59.length) ∧ cond (decide (t8 < ((l59.getD t7.toNat default).length : Int))) ((((0 ≤ t7 ∧ t7 < l60.length) ∧ (0 ≤ t8 ∧ t8 < (l60.getD t7.toNat default).length)) ∧ cond ((l60.getD t7.toNat default).getD t8.toNat default) ((((0 ≤ t7 ∧ t7 < l59.length) ∧ (0 ≤ t8 ∧ t8 < (l59.getD t7.toNat default).length)) ∧ rec t7 (w64 (t8 + 1)) c5_0 c5_1 c6_0 c6_1 (l59.set t7.toNat ((l59.getD t7.toNat default).set t8.toNat false)) l60)) (rec t7 (w64 (t8 + 1)) c5_0 c5_1 c6_0 c6_1 l59 l60))) (x0 t7 t8 c5_0 c5_1 c6_0 c6_1 l59 l60))
def g_ref03_Surface_c1_0 (rec : Int → List Int → List Int → List Int → List Int → List (List Bool) → List (List Bool) → Prop) (x0 : Int → List Int → List Int → List Int → List Int → List (List Bool) → List (List Bool) → Prop) (t7 : Int) (t8 : Int) (c5_0 : List Int) (c5_1 : List Int) (c6_0 : List Int) (c6_1 : List Int) (l59 : List (List Bool)) (l60 : List (List Bool)) : Prop := rec (w64 (t7 + 1)) c5_0 c5_1 c6_0 c6_1 l59 l60
def w_ref03_Surface_1 (F : Nat) (x0 : Int → Int → List Int → List Int → List Int → List Int → List (List Bool) → List (List Bool) → Prop) : Nat → Int → Int → List Int → List Int → List Int → List Int → List (List Bool) → List (List Bool) → Prop
  | 0, _, _, _, _, _, _, _, _ => False
  | n + 1, t7, t8, c5_0, c5_1, c6_0, c6_1, l59, l60 => g_ref03_Surface_s1 (w_ref03_Surface_1 F x0 n) x0 t7 t8 c5_0 c5_1 c6_0 c6_1 l59 l60
def n_ref03_Surface_1 (F : Nat) (rec : Int → List Int → List Int → List Int → List Int → List (List Bool) → List (List Bool) → Prop) (x0 : Int → List Int → List Int → List Int → List Int → List (List Bool) → List (List Bool) → Prop) (t7 : Int) (t8 : Int) (c5_0 : List Int) (c5_1 : List Int) (c6_0 : List Int) (c6_1 : List Int) (l59 : List (List Bool)) (l60 : List (List Bool)) : Prop := w_ref03_Surface_1 F (fun t7 t8 c5_0 c5_1 c6_0 c6_1 l59 l60 => g_ref03_Surface_c1_0 rec x0 t7 t8 c5_0 c5_1 c6_0 c6_1 l59 l60) F t7 t8 c5_0 c5_1 c6_0 c6_1 l59 l60
def w_ref03_Surface_0 (F : Nat) (x0 : Int → List Int → List Int → List Int → List Int → List (List Bool) → List (List Bool) → Prop) : Nat → Int → List Int → List Int → List Int → List Int → List (List Bool) → List (List Bool) → Prop
  | 0, _, _, _, _, _, _, _ => False
  | n + 1, t7, c5_0, c5_1, c6_0, c6_1, l59, l60 => g_ref03_Surface_s0 (w_ref03_Surface_0 F x0 n) x0 t7 c5_0 c5_1 c6_0 c6_1 l59 l60 (n_ref03_Surface_1 F (w_ref03_Surface_0 F x0 n) x0)
def n_ref03_Surface_0 (F : Nat) (Q : Int → Int → Prop) (t7 : Int) (c5_0 : List Int) (c5_1 : List Int) (c6_0 : List Int) (c6_1 : List Int) (l59 : List (List Bool)) (l60 : List (List Bool)) : Prop := w_ref03_Surface_0 F (fun t7 c5_0 c5_1 c6_0 c6_1 l59 l60 => g_ref03_Surface_c0_0 Q t7 c5_0 c5_1 c6_0 c6_1 l59 l60) F t7 c5_0 c5_1 c6_0 c6_1 l59 l60
def w_ref03_Surface (F : Nat) (a0_Rects : List Rect) (a0_Cuts : List Rect) (a0_Forms : List Rect) (a0_Bends : List Bend) (Q : Int → Int → Prop) : Prop := g_ref03_Surface_e a0_Rects a0_Cuts a0_Forms a0_Bends Q (n_ref03_Surface_0 F Q)
end
end Go.Proofs.Ytohecfbnmmgimaa

namespace Go.Proofs.Ytohecfbnmmgimaa
open Go.Vm Go.RowKit
set_option linter.unusedVariables false
noncomputable section

theorem asc_lt {l : List Int} (h : asc l) {i k : Nat} (hi : i < l.length) (hk : k < l.length) : l.getD i default < l.getD k default ↔ i < k := by
  have e : ∀ {j : Nat} (hj : j < l.length), l.getD j default = l[j] := fun hj => by simp [List.getD, hj]
  rw [e hi, e hk]
  constructor
  · intro hlt
    rcases Nat.lt_trichotomy i k with h1 | h1 | h1
    · exact h1
    · subst h1; omega
    · have := List.pairwise_iff_getElem.1 h k i hk hi h1
      omega
  · intro h1
    exact List.pairwise_iff_getElem.1 h i k hi hk h1
theorem mem_dl {l : List Int} {x : Int} (h : x ∈ l.dropLast) : ∃ k, k + 1 < l.length ∧ x = l.getD k default := by
  obtain ⟨k, hk, rfl⟩ := List.getElem_of_mem h
  have h2 : k < l.length - 1 := by simpa using hk
  exact ⟨k, by omega, by simp [List.getD, show k < l.length by omega]⟩
theorem gridOf_congr {p q : Int → Int → Bool} {X Y : List Int} (h : ∀ a ∈ X.dropLast, ∀ b ∈ Y.dropLast, p a b = q a b) : gridOf p X Y = gridOf q X Y :=
  List.map_congr_left fun a ha => List.map_congr_left fun b hb => h a ha b hb
theorem map_set_of {α β : Type} (f g : α → β) (l : List α) (i : Nat) (v : β) (hi : i < l.length) (hn : l.Nodup) (hv : g l[i] = v) (hne : ∀ x ∈ l, x ≠ l[i] → f x = g x) : (l.map f).set i v = l.map g := by
  apply List.ext_getElem
  · simp
  · intro k h1 h2
    have hk : k < l.length := by simpa using h2
    rw [List.getElem_set]
    split
    · rename_i e
      subst e
      simp [hv]
    · rename_i e
      simp only [List.getElem_map]
      refine hne _ (List.getElem_mem ..) fun e2 => e ?_
      rcases Nat.lt_trichotomy i k with h3 | h3 | h3
      · exact absurd e2.symm (List.pairwise_iff_getElem.1 hn i k hi hk h3)
      · exact h3
      · exact absurd e2 (List.pairwise_iff_getElem.1 hn k i hk hi h3)
theorem asc_dl_nodup {l : List Int} (h : asc l) : l.dropLast.Nodup := (List.Pairwise.sublist (List.dropLast_sublist l) h).imp fun hab => by omega
theorem dl_get {l : List Int} {i : Nat} (h : i < l.dropLast.length) : l.dropLast[i] = l.getD i default := by
  have h2 : i < l.length - 1 := by simpa using h
  simp [List.getD, show i < l.length by omega]
theorem grid_set {p q : Int → Int → Bool} {X Y : List Int} (ax : asc X) (ay : asc Y) {i j : Nat} (hi : i + 1 < X.length) (hj : j + 1 < Y.length) (v : Bool) (hv : q (X.getD i default) (Y.getD j default) = v)
    (hne : ∀ a ∈ X.dropLast, ∀ b ∈ Y.dropLast, (a ≠ X.getD i default ∨ b ≠ Y.getD j default) → p a b = q a b) : (gridOf p X Y).set i (((gridOf p X Y).getD i default).set j v) = gridOf q X Y := by
  have hi' : i < X.dropLast.length := by rw [dropLast_len]; omega
  have hj' : j < Y.dropLast.length := by rw [dropLast_len]; omega
  rw [gridOf_row p hi]
  have hm : X.getD i default ∈ X.dropLast := by rw [← dl_get hi']; exact List.getElem_mem ..
  have hr : (Y.dropLast.map (p (X.getD i default))).set j v = Y.dropLast.map (q (X.getD i default)) :=
    map_set_of _ _ _ j v hj' (asc_dl_nodup ay) (by rw [dl_get hj']; exact hv) (fun b hb hbn => hne _ hm b hb (.inr (by rw [← dl_get hj']; exact hbn)))
  rw [hr]
  exact map_set_of _ _ _ i _ hi' (asc_dl_nodup ax) (by rw [dl_get hi']) (fun a ha han => List.map_congr_left fun b hb => hne a ha b hb (.inl (by rw [← dl_get hi']; exact han)))

/-- The cells as they are when the loop stands at a place. -/
def mix (p q : Int → Int → Bool) (xi yj a b : Int) : Bool := cond (decide (a < xi) || (decide (a = xi) && decide (b < yj))) (q a b) (p a b)
theorem lp_z1 (F : Nat) (x0 : Int → Int → List Int → List Int → List Int → List Int → List (List Bool) → List (List Bool) → Prop) (p c : Int → Int → Bool) (X Y c6 c7 : List Int) (i : Nat) (m : Nat) (hm : m = Y.length - 1) (hi : i + 1 < X.length) (ax : asc X) (ay : asc Y) (hx : X.length ≤ 1000000) (hy : Y.length ≤ 1000000) : ∀ (n j : Nat), j ≤ m → m < j + n →
    x0 i m X Y c6 c7 (gridOf (mix p (fun a b => p a b && !c a b) (X.getD i default) (Y.getD m default)) X Y) (gridOf c X Y) →
    w_ref03_Surface_1 F x0 n i j X Y c6 c7 (gridOf (mix p (fun a b => p a b && !c a b) (X.getD i default) (Y.getD j default)) X Y) (gridOf c X Y) := by
  intro n
  induction n with
  | zero => intro j h1 h2; omega
  | succ n ih =>
    intro j h1 h2 e
    show g_ref03_Surface_s1 (w_ref03_Surface_1 F x0 n) x0 i j X Y c6 c7 _ _
    unfold g_ref03_Surface_s1
    have hb1 : ∀ r, 0 ≤ (i : Int) ∧ (i : Int) < (gridOf r X Y).length := fun r => by rw [gridOf_len]; omega
    rw [Int.toNat_natCast, Int.toNat_natCast]
    have hlen : ∀ r : Int → Int → Bool, (((gridOf r X Y).getD i default).length : Int) = m := fun r => by rw [gridOf_row r hi]; simp; omega
    refine ⟨hb1 _, ?_⟩
    rw [hlen, hlen]
    by_cases h : j < m
    · have hj : j + 1 < Y.length := by omega
      rw [dec_t (by omega), cond_true, w64_succ h (by omega)]
      have hat : ((gridOf c X Y).getD i default).getD j default = c (X.getD i default) (Y.getD j default) := by rw [gridOf_row c hi, row_at _ hj]
      refine ⟨⟨hb1 _, by omega, by omega⟩, ?_⟩
      rw [hat]
      have hnx := ih (j + 1) (by omega) (by omega) e
      have hdiff : ∀ a ∈ X.dropLast, ∀ b ∈ Y.dropLast, (a ≠ X.getD i default ∨ b ≠ Y.getD j default) → mix p (fun a b => p a b && !c a b) (X.getD i default) (Y.getD j default) a b = mix p (fun a b => p a b && !c a b) (X.getD i default) (Y.getD (j + 1) default) a b := fun a ha b hb hab => by
        obtain ⟨k, hk, rfl⟩ := mem_dl hb
        unfold mix
        have e1 := asc_lt ay (i := k) (k := j) (by omega) (by omega)
        have e2 := asc_lt ay (i := k) (k := j + 1) (by omega) (by omega)
        have e3 := asc_lt ay (i := j) (k := k) (by omega) (by omega)
        congr 1
        congr 1
        by_cases ha' : a = X.getD i default
        · congr 1
          refine decide_eq_decide.2 ?_
          have : Y.getD k default ≠ Y.getD j default := hab.resolve_left (fun h => h ha')
          omega
        · rw [dec_f ha']
          rfl
      cases hc : c (X.getD i default) (Y.getD j default)
      · rw [cond_false]
        have hg : gridOf (mix p (fun a b => p a b && !c a b) (X.getD i default) (Y.getD j default)) X Y = gridOf (mix p (fun a b => p a b && !c a b) (X.getD i default) (Y.getD (j + 1) default)) X Y := gridOf_congr fun a ha b hb => by
          by_cases hab : a ≠ X.getD i default ∨ b ≠ Y.getD j default
          · exact hdiff a ha b hb hab
          · have ha' : a = X.getD i default := Classical.byContradiction fun h => hab (.inl h)
            have hb' : b = Y.getD j default := Classical.byContradiction fun h => hab (.inr h)
            subst ha' hb'
            unfold mix
            dsimp only
            rw [hc, Bool.not_false, Bool.and_true]
            cases (decide (X.getD i default < X.getD i default) || (decide (X.getD i default = X.getD i default) && decide (Y.getD j default < Y.getD j default))) <;> cases (decide (X.getD i default < X.getD i default) || (decide (X.getD i default = X.getD i default) && decide (Y.getD j default < Y.getD (j + 1) default))) <;> rfl
        rw [hg]
        exact hnx
      · rw [cond_true]
        refine ⟨⟨hb1 _, by omega, by omega⟩, ?_⟩
        have e2 := asc_lt ay (i := j) (k := j + 1) (by omega) (by omega)
        rw [grid_set ax ay hi hj false (q := mix p (fun a b => p a b && !c a b) (X.getD i default) (Y.getD (j + 1) default)) (by
          unfold mix
          dsimp only
          rw [hc, dec_t (e2.2 (by omega)), dec_t rfl]
          simp) hdiff]
        exact hnx
    · rw [dec_f (by omega), cond_false]
      have he : j = m := by omega
      subst he
      exact e
theorem lp_z0 (F : Nat) (hF : 1000000 < F) (x0 : Int → List Int → List Int → List Int → List Int → List (List Bool) → List (List Bool) → Prop) (p c : Int → Int → Bool) (X Y c6 c7 : List Int) (k : Nat) (hk : k = X.length - 1) (ax : asc X) (ay : asc Y) (hx : X.length ≤ 1000000) (hy : Y.length ≤ 1000000) : ∀ (n i : Nat), i ≤ k → k < i + n →
    x0 k X Y c6 c7 (gridOf (fun a b => p a b && !c a b) X Y) (gridOf c X Y) →
    w_ref03_Surface_0 F x0 n i X Y c6 c7 (gridOf (mix p (fun a b => p a b && !c a b) (X.getD i default) (Y.getD 0 default)) X Y) (gridOf c X Y) := by
  intro n
  induction n with
  | zero => intro i h1 h2; omega
  | succ n ih =>
    intro i h1 h2 e
    show g_ref03_Surface_s0 (w_ref03_Surface_0 F x0 n) x0 i X Y c6 c7 _ _ (n_ref03_Surface_1 F (w_ref03_Surface_0 F x0 n) x0)
    unfold g_ref03_Surface_s0
    rw [show ∀ r : Int → Int → Bool, ((gridOf r X Y).length : Int) = k from fun r => by rw [gridOf_len]; omega]
    by_cases h : i < k
    · have hi : i + 1 < X.length := by omega
      rw [dec_t (by omega), cond_true]
      refine lp_z1 F _ p c X Y c6 c7 i (Y.length - 1) rfl hi ax ay hx hy F 0 (by omega) (by omega) ?_
      show w_ref03_Surface_0 F x0 n (w64 _) _ _ _ _ _ _
      rw [w64_succ h (by omega)]
      have hnx := ih (i + 1) (by omega) (by omega) e
      have hg : gridOf (mix p (fun a b => p a b && !c a b) (X.getD i default) (Y.getD (Y.length - 1) default)) X Y = gridOf (mix p (fun a b => p a b && !c a b) (X.getD (i + 1) default) (Y.getD 0 default)) X Y := gridOf_congr fun a ha b hb => by
        obtain ⟨u, hu, rfl⟩ := mem_dl ha
        obtain ⟨v, hv, rfl⟩ := mem_dl hb
        unfold mix
        have e1 := asc_lt ax (i := u) (k := i) (by omega) (by omega)
        have e2 := asc_lt ax (i := u) (k := i + 1) (by omega) (by omega)
        have e3 := asc_lt ax (i := i) (k := u) (by omega) (by omega)
        have e4 := asc_lt ay (i := v) (k := Y.length - 1) (by omega) (by omega)
        have e5 := asc_lt ay (i := v) (k := 0) (by omega) (by omega)
        rw [dec_t (e4.2 (by omega)), dec_f (p := Y.getD v default < Y.getD 0 default) (by omega), Bool.and_true, Bool.and_false, Bool.or_false]
        congr 1
        rw [← Bool.decide_or]
        exact decide_eq_decide.2 (by omega)
      rw [hg]
      exact hnx
    · rw [dec_f (by omega), cond_false]
      have he : i = k := by omega
      subst he
      have hg : gridOf (mix p (fun a b => p a b && !c a b) (X.getD i default) (Y.getD 0 default)) X Y = gridOf (fun a b => p a b && !c a b) X Y := gridOf_congr fun a ha b hb => by
        obtain ⟨u, hu, rfl⟩ := mem_dl ha
        unfold mix
        have e1 := asc_lt ax (i := u) (k := i) (by omega) (by omega)
        rw [dec_t (e1.2 (by omega)), Bool.true_or, cond_true]
      rw [hg]
      exact e

/-! ### its size is the surface -/
theorem strip_sub (f g : Int → Int) : ∀ l : List Int, strip (fun x => f x - g x) l = strip f l - strip g l := by
  intro l
  induction l with
  | nil => rfl
  | cons a l ih =>
    cases l with
    | nil => rfl
    | cons b l =>
      show (b - a) * (f a - g a) + strip _ (b :: l) = ((b - a) * f a + strip f (b :: l)) - ((b - a) * g a + strip g (b :: l))
      rw [ih, Int.mul_sub]
      omega
theorem covB_append (l m : List Rect) (x y : Int) : covB (l ++ m) x y = (covB l x y || covB m x y) := by
  unfold covB
  exact List.any_append
theorem size_surf (R C : List Rect) (X Y : List Int) (ax : asc X) (ay : asc Y) (hX : allX (R ++ C) X) (hY : hasY (R ++ C) Y) (mx : inM X) (my : inM Y) : sizeOf (fun a b => covB R a b && !covB C a b) X Y = surf R C := by
  have g1 := grid_cells (R ++ C) X Y ax ay hX hY mx my
  have g2 := grid_cells C X Y ax ay (fun r hr => hX r (List.mem_append_right _ hr)) (fun r hr => hY r (List.mem_append_right _ hr)) mx my
  have s := A_split (covB (R ++ C)) (covB C)
  have e1 : A (fun x y => covB (R ++ C) x y && covB C x y) = A (covB C) := A_congr fun x y => by
    rw [covB_append]
    cases covB R x y <;> cases covB C x y <;> rfl
  have e2 : A (fun x y => covB (R ++ C) x y && !covB C x y) = surf R C := A_congr fun x y => by
    rw [covB_append]
    cases covB R x y <;> cases covB C x y <;> rfl
  have e3 : sizeOf (fun a b => covB R a b && !covB C a b) X Y = strip (fun x => strip (fun y => b2i (covB (R ++ C) x y)) Y) X - strip (fun x => strip (fun y => b2i (covB C x y)) Y) X := by
    rw [← strip_sub]
    unfold sizeOf
    refine strip_congr fun x _ => ?_
    rw [← strip_sub]
    refine strip_congr fun y _ => ?_
    rw [covB_append]
    show b2i (covB R x y && !covB C x y) = _
    cases covB R x y <;> cases covB C x y <;> rfl
  omega

def pre_ref03_Surface (R C M : List Rect) (B : List Bend) : Prop := sh B
def sp_ref03_Surface (R C M : List Rect) (B : List Bend) : Int × Int := cond (wholeB R C M B) (surf R C, 0) (0, 1)
theorem ok_ref03_Surface (a0_Rects : List Rect) (a0_Cuts : List Rect) (a0_Forms : List Rect) (a0_Bends : List Bend) (h : pre_ref03_Surface a0_Rects a0_Cuts a0_Forms a0_Bends) : ∃ F, ∀ Q : Int → Int → Prop, Q ((sp_ref03_Surface a0_Rects a0_Cuts a0_Forms a0_Bends).1) ((sp_ref03_Surface a0_Rects a0_Cuts a0_Forms a0_Bends).2) → w_ref03_Surface F a0_Rects a0_Cuts a0_Forms a0_Bends Q := by
  refine ⟨1000001, fun Q hQ => ?_⟩
  unfold w_ref03_Surface g_ref03_Surface_e n_ref03_Surface_0
  unfold sp_ref03_Surface at hQ
  refine ⟨h, ?_⟩
  unfold sp_ref03_Whole
  cases hw : wholeB a0_Rects a0_Cuts a0_Forms a0_Bends
  · rw [hw, cond_false] at hQ
    exact hQ
  · rw [hw, cond_true] at hQ
    obtain ⟨hne, hR, hC, hM, hB⟩ := whole_lists hw
    rw [Bool.not_true, cond_false]
    have hv : ∀ r ∈ a0_Rects ++ a0_Cuts, vR r = true := fun r hr => (List.mem_append.1 hr).elim (hR.2 r) (hC.2 r)
    have hl : (a0_Rects ++ a0_Cuts).length ≤ 96 := by rw [List.length_append]; omega
    refine ⟨⟨by omega, by omega⟩, ⟨⟨by unfold sp_ref01_Both; omega, hv⟩, by omega, hR.2⟩, ⟨⟨by unfold sp_ref01_Both; omega, hv⟩, by omega, hC.2⟩, ?_⟩
    unfold sp_ref01_MakeGrid sp_ref01_Both
    dsimp only
    have lx := xx_len (a0_Rects ++ a0_Cuts)
    have ly := yx_len (a0_Rects ++ a0_Cuts) []
    rw [List.length_nil] at ly
    have xmem : ∀ x, x ∈ xx [] (a0_Rects ++ a0_Cuts) ↔ ∃ r ∈ a0_Rects ++ a0_Cuts, x = r.X ∨ x = r.X + r.W := fun x => by
      unfold xx
      rw [yx_mem]
      constructor
      · rintro (h | ⟨q, hq, h⟩)
        · cases h
        · obtain ⟨r, hr, rfl⟩ := List.mem_map.1 hq
          exact ⟨r, hr, h⟩
      · rintro ⟨r, hr, h⟩
        exact .inr ⟨flipR r, List.mem_map_of_mem hr, h⟩
    have ymem : ∀ x, x ∈ yx [] (a0_Rects ++ a0_Cuts) ↔ ∃ r ∈ a0_Rects ++ a0_Cuts, x = r.Y ∨ x = r.Y + r.H := fun x => by
      rw [yx_mem]
      constructor
      · rintro (h | h)
        · cases h
        · exact h
      · exact .inr
    have ax : asc (xx [] (a0_Rects ++ a0_Cuts)) := yx_asc _ _ List.Pairwise.nil
    have ay : asc (yx [] (a0_Rects ++ a0_Cuts)) := yx_asc _ _ List.Pairwise.nil
    have mx : inM (xx [] (a0_Rects ++ a0_Cuts)) := fun e he => by
      obtain ⟨r, hr, h1⟩ := (xmem e).1 he
      have := (vR_iff r).1 (hv r hr)
      omega
    have my : inM (yx [] (a0_Rects ++ a0_Cuts)) := fun e he => by
      obtain ⟨r, hr, h1⟩ := (ymem e).1 he
      have := (vR_iff r).1 (hv r hr)
      omega
    have hX : allX (a0_Rects ++ a0_Cuts) (xx [] (a0_Rects ++ a0_Cuts)) := fun r hr => ⟨(xmem _).2 ⟨r, hr, .inl rfl⟩, (xmem _).2 ⟨r, hr, .inr rfl⟩⟩
    have hY : hasY (a0_Rects ++ a0_Cuts) (yx [] (a0_Rects ++ a0_Cuts)) := fun r hr => ⟨(ymem _).2 ⟨r, hr, .inl rfl⟩, (ymem _).2 ⟨r, hr, .inr rfl⟩⟩
    have hs := size_surf a0_Rects a0_Cuts _ _ ax ay hX hY mx my
    revert lx ly ax ay mx my hs
    generalize xx [] (a0_Rects ++ a0_Cuts) = X
    generalize yx [] (a0_Rects ++ a0_Cuts) = Y
    intro lx ly ax ay mx my hs
    have e0 : gridOf (covB a0_Rects) X Y = gridOf (mix (covB a0_Rects) (fun a b => covB a0_Rects a b && !covB a0_Cuts a b) (X.getD 0 default) (Y.getD 0 default)) X Y := gridOf_congr fun a ha b hb => by
      obtain ⟨u, hu, rfl⟩ := mem_dl ha
      obtain ⟨v, hv, rfl⟩ := mem_dl hb
      unfold mix
      have e1 := asc_lt ax (i := u) (k := 0) (by omega) (by omega)
      have e2 := asc_lt ay (i := v) (k := 0) (by omega) (by omega)
      rw [dec_f (p := X.getD u default < X.getD 0 default) (by omega), dec_f (p := Y.getD v default < Y.getD 0 default) (by omega), Bool.and_false, Bool.or_false, cond_false]
    rw [e0]
    refine lp_z0 1000001 (by omega) _ (covB a0_Rects) (covB a0_Cuts) X Y X Y _ rfl ax ay (by omega) (by omega) 1000001 0 (by omega) (by omega) ?_
    show g_ref03_Surface_c0_0 _ _ _ _ _ _ _ _
    unfold g_ref03_Surface_c0_0
    rw [size_grid, hs]
    exact ⟨⟨⟨_, rfl⟩, by omega, by omega, ax, ay, mx, my⟩, hQ⟩
end
end Go.Proofs.Ytohecfbnmmgimaa

namespace Go.Proofs.Ytohecfbnmmgimaa
open Go.Vm Go.RowKit
set_option linter.unusedVariables false
noncomputable section
/-! ### sheetmetal/sheetmetallaw03.FlatSurfaces -/
def M_law03_FlatSurfaces : Nat → Nat → Canon UU := fun b r => ⟨[], [], [], [], []⟩
def g_law03_FlatSurfaces_e (a0_Rects : List Rect) (a0_Cuts : List Rect) (a0_Forms : List Rect) (a0_Bends : List Bend) (Q : Bool → Prop) : Prop := (let r0 := (sp_law03_Long a0_Rects a0_Cuts a0_Forms a0_Bends); cond r0 (((pre_law03_known ) ∧ Q sp_law03_known)) ((let r1 := (sp_flat_Surface a0_Rects a0_Cuts a0_Forms a0_Bends); ((pre_flat_Surface a0_Rects a0_Cuts a0_Forms a0_Bends) ∧ (let r2 := (sp_ref03_Surface a0_Rects a0_Cuts a0_Forms a0_Bends); ((pre_ref03_Surface a0_Rects a0_Cuts a0_Forms a0_Bends) ∧ ((((r1.1 == r2.1) && (r1.2 == r2.2)) = true → pre_law03_known ) ∧ Q (((r1.1 == r2.1) && (r1.2 == r2.2)) && sp_law03_known))))))))
def w_law03_FlatSurfaces (F : Nat) (a0_Rects : List Rect) (a0_Cuts : List Rect) (a0_Forms : List Rect) (a0_Bends : List Bend) (Q : Bool → Prop) : Prop := g_law03_FlatSurfaces_e a0_Rects a0_Cuts a0_Forms a0_Bends Q
end
end Go.Proofs.Ytohecfbnmmgimaa

namespace Go.Proofs.Ytohecfbnmmgimaa
open Go.Vm Go.RowKit
set_option linter.unusedVariables false
noncomputable section

theorem valid_iffQ {n d : Int} : sp_flat_valid n d = true ↔ (1 ≤ d ∧ d ≤ 4096 ∧ -16777216 ≤ n ∧ n ≤ 16777216) := by
  simp [sp_flat_valid, and_assoc]
theorem valid_bigQ {n d : Int} (h : sp_flat_valid n d = true) : bigOK n d := by
  obtain ⟨h1, h2, h3, h4⟩ := valid_iffQ.1 h
  exact ⟨by omega, by omega, by omega, by omega⟩
theorem pre_ReduceQ (n d : Int) : pre_flat_Reduce n d := by
  unfold pre_flat_Reduce
  cases h : sp_flat_valid n d
  · trivial
  · exact valid_bigQ h
theorem times720Q {n d : Int} (h : sp_flat_valid n d = true) : w64 (n * 720) = n * 720 ∧ w64 (d * 1) = d ∧ bigOK (n * 720) d := by
  obtain ⟨h1, h2, h3, h4⟩ := valid_iffQ.1 h
  exact ⟨w64_of (by omega) (by omega), by rw [w64_of (by omega) (by omega)]; omega, by omega, by omega, by omega, by omega⟩
theorem pre_TicksQ (n d : Int) : pre_flat_Ticks n d := by
  unfold pre_flat_Ticks
  cases h : sp_flat_valid n d
  · trivial
  · obtain ⟨e1, e2, e3⟩ := times720Q h
    show bigOK (w64 (n * 720)) (w64 (d * 1))
    rw [e1, e2]
    exact e3
theorem known_pre' : pre_law03_known := ⟨pre_ReduceQ _ _, pre_TicksQ _ _⟩
theorem known_true' : sp_law03_known = true := by decide +kernel

theorem law_surfaces (R C M : List Rect) (B : List Bend) : w_law03_FlatSurfaces 1001 R C M B (fun r => r = true) := by
  unfold w_law03_FlatSurfaces g_law03_FlatSurfaces_e
  dsimp only
  cases hl : sp_law03_Long R C M B
  · rw [cond_false]
    have hs : sh B := by
      unfold sp_law03_Long at hl
      simp only [Bool.or_eq_false_iff, decide_eq_false_iff_not] at hl
      unfold sh
      omega
    refine ⟨hs, hs, fun _ => known_pre', ?_⟩
    rw [known_true']
    have e : sp_ref03_Surface R C M B = sp_flat_Surface R C M B := rfl
    rw [e]
    simp
  · rw [cond_true]
    exact ⟨known_pre', known_true'⟩
end
end Go.Proofs.Ytohecfbnmmgimaa

namespace Go.Proofs.Ytohecfbnmmgimaa
open Go.Vm Go.RowKit
set_option linter.unusedVariables false
noncomputable section
set_option maxRecDepth 100000 in
theorem entry_flat_rightAngle (F : Nat) (Post : AVal UU → Prop) (a0 : Int) : exec C_names Try.f38.ntmps M_flat_rightAngle F 0 (bo Try.f38) (initSt [.int .i64 a0]) (AEnds C_names false Try.f38 Post) = g_flat_rightAngle_e a0 (fun r0 => Post (.bool r0)) := by kernel_rfl
theorem exec_flat_rightAngle (F : Nat) (Post : AVal UU → Prop) (a0 : Int) : exec C_names Try.f38.ntmps M_flat_rightAngle F 0 (bo Try.f38) (initSt [.int .i64 a0]) (AEnds C_names false Try.f38 Post) = w_flat_rightAngle F a0 (fun r0 => Post (.bool r0)) := by
  rw [entry_flat_rightAngle]
  rfl
def m_flat_rightAngle : Model UU
  | [.int .i64 a0] => some ([], .bool (sp_flat_rightAngle a0))
  | _ => none
def C_flat_rightAngle : Cfg UU := C_names.add 38 m_flat_rightAngle
theorem s_flat_rightAngle : SumOK C_flat_rightAngle := by
  refine s_names.addD mixed (fn := Try.f38) (c := bo Try.f38) Try.func38 (by kernel_rfl) (by kernel_rfl) ?_
  intro xs cs r h hc
  unfold m_flat_rightAngle at h
  split at h
  · rename_i a0
    cases h
    obtain ⟨F, hF⟩ := ok_flat_rightAngle a0
    refine ⟨by kernel_rfl, M_flat_rightAngle, F, false, ⟨?_⟩⟩
    rw [exec_flat_rightAngle]
    refine hF _ ?_
    rfl
  · cases h
set_option maxRecDepth 100000 in
theorem entry_flat_rightDen (F : Nat) (Post : AVal UU → Prop) (a0 : Int) : exec C_flat_rightAngle Try.f43.ntmps M_flat_rightDen F 0 (bo Try.f43) (initSt [.int .i64 a0]) (AEnds C_flat_rightAngle false Try.f43 Post) = g_flat_rightDen_e a0 (fun r0 => Post (.bool r0)) := by kernel_rfl
theorem exec_flat_rightDen (F : Nat) (Post : AVal UU → Prop) (a0 : Int) : exec C_flat_rightAngle Try.f43.ntmps M_flat_rightDen F 0 (bo Try.f43) (initSt [.int .i64 a0]) (AEnds C_flat_rightAngle false Try.f43 Post) = w_flat_rightDen F a0 (fun r0 => Post (.bool r0)) := by
  rw [entry_flat_rightDen]
  rfl
def m_flat_rightDen : Model UU
  | [.int .i64 a0] => some ([], .bool (sp_flat_rightDen a0))
  | _ => none
def C_flat_rightDen : Cfg UU := C_flat_rightAngle.add 43 m_flat_rightDen
theorem s_flat_rightDen : SumOK C_flat_rightDen := by
  refine s_flat_rightAngle.addD mixed (fn := Try.f43) (c := bo Try.f43) Try.func43 (by kernel_rfl) (by kernel_rfl) ?_
  intro xs cs r h hc
  unfold m_flat_rightDen at h
  split at h
  · rename_i a0
    cases h
    obtain ⟨F, hF⟩ := ok_flat_rightDen a0
    refine ⟨by kernel_rfl, M_flat_rightDen, F, false, ⟨?_⟩⟩
    rw [exec_flat_rightDen]
    refine hF _ ?_
    rfl
  · cases h
set_option maxRecDepth 100000 in
theorem entry_ref03_within (F : Nat) (Post : AVal UU → Prop) (a0 : Int) (a1 : Int) (a2 : Int) : exec C_flat_rightDen Try.f33.ntmps M_ref03_within F 0 (bo Try.f33) (initSt [.int .i64 a0, .int .i64 a1, .int .i64 a2]) (AEnds C_flat_rightDen false Try.f33 Post) = g_ref03_within_e a0 a1 a2 (fun r0 => Post (.bool r0)) := by kernel_rfl
theorem exec_ref03_within (F : Nat) (Post : AVal UU → Prop) (a0 : Int) (a1 : Int) (a2 : Int) : exec C_flat_rightDen Try.f33.ntmps M_ref03_within F 0 (bo Try.f33) (initSt [.int .i64 a0, .int .i64 a1, .int .i64 a2]) (AEnds C_flat_rightDen false Try.f33 Post) = w_ref03_within F a0 a1 a2 (fun r0 => Post (.bool r0)) := by
  rw [entry_ref03_within]
  rfl
def m_ref03_within : Model UU
  | [.int .i64 a0, .int .i64 a1, .int .i64 a2] => some ([], .bool (sp_ref03_within a0 a1 a2))
  | _ => none
def C_ref03_within : Cfg UU := C_flat_rightDen.add 33 m_ref03_within
theorem s_ref03_within : SumOK C_ref03_within := by
  refine s_flat_rightDen.addD mixed (fn := Try.f33) (c := bo Try.f33) Try.func33 (by kernel_rfl) (by kernel_rfl) ?_
  intro xs cs r h hc
  unfold m_ref03_within at h
  split at h
  · rename_i a0 a1 a2
    cases h
    obtain ⟨F, hF⟩ := ok_ref03_within a0 a1 a2
    refine ⟨by kernel_rfl, M_ref03_within, F, false, ⟨?_⟩⟩
    rw [exec_ref03_within]
    refine hF _ ?_
    rfl
  · cases h
set_option maxRecDepth 100000 in
theorem entry_flat_of (F : Nat) (Post : AVal UU → Prop) (a0_Num : Int) (a0_Den : Int) : exec C_ref03_within Try.f46.ntmps M_flat_of F 0 (bo Try.f46) (initSt [.agg [.int .i64 a0_Num, .int .i64 a0_Den]]) (AEnds C_ref03_within false Try.f46 Post) = g_flat_of_e a0_Num a0_Den (fun r0_num r0_den => Post (.agg [.int .i64 r0_num, .int .i64 r0_den])) := by kernel_rfl
theorem exec_flat_of (F : Nat) (Post : AVal UU → Prop) (a0_Num : Int) (a0_Den : Int) : exec C_ref03_within Try.f46.ntmps M_flat_of F 0 (bo Try.f46) (initSt [.agg [.int .i64 a0_Num, .int .i64 a0_Den]]) (AEnds C_ref03_within false Try.f46 Post) = w_flat_of F a0_Num a0_Den (fun r0_num r0_den => Post (.agg [.int .i64 r0_num, .int .i64 r0_den])) := by
  rw [entry_flat_of]
  rfl
def m_flat_of : Model UU
  | [.agg [.int .i64 a0_Num, .int .i64 a0_Den]] => some ([], .agg [.int .i64 ((sp_flat_of a0_Num a0_Den).1), .int .i64 ((sp_flat_of a0_Num a0_Den).2)])
  | _ => none
def C_flat_of : Cfg UU := C_ref03_within.add 46 m_flat_of
theorem s_flat_of : SumOK C_flat_of := by
  refine s_ref03_within.addD mixed (fn := Try.f46) (c := bo Try.f46) Try.func46 (by kernel_rfl) (by kernel_rfl) ?_
  intro xs cs r h hc
  unfold m_flat_of at h
  split at h
  · rename_i a0_Num a0_Den
    cases h
    obtain ⟨F, hF⟩ := ok_flat_of a0_Num a0_Den
    refine ⟨by kernel_rfl, M_flat_of, F, false, ⟨?_⟩⟩
    rw [exec_flat_of]
    refine hF _ ?_
    rfl
  · cases h
set_option maxRecDepth 100000 in
theorem entry_flat_rational_rat (F : Nat) (Post : AVal UU → Prop) (a0_num : Int) (a0_den : Int) : exec C_flat_of Try.f40.ntmps M_flat_rational_rat F 0 (bo Try.f40) (initSt [.agg [.int .i64 a0_num, .int .i64 a0_den]]) (AEnds C_flat_of false Try.f40 Post) = g_flat_rational_rat_e a0_num a0_den (fun r0_Num r0_Den => Post (.agg [.int .i64 r0_Num, .int .i64 r0_Den])) := by kernel_rfl
theorem exec_flat_rational_rat (F : Nat) (Post : AVal UU → Prop) (a0_num : Int) (a0_den : Int) : exec C_flat_of Try.f40.ntmps M_flat_rational_rat F 0 (bo Try.f40) (initSt [.agg [.int .i64 a0_num, .int .i64 a0_den]]) (AEnds C_flat_of false Try.f40 Post) = w_flat_rational_rat F a0_num a0_den (fun r0_Num r0_Den => Post (.agg [.int .i64 r0_Num, .int .i64 r0_Den])) := by
  rw [entry_flat_rational_rat]
  rfl
def m_flat_rational_rat : Model UU
  | [.agg [.int .i64 a0_num, .int .i64 a0_den]] => some ([], .agg [.int .i64 ((sp_flat_rational_rat a0_num a0_den).1), .int .i64 ((sp_flat_rational_rat a0_num a0_den).2)])
  | _ => none
def C_flat_rational_rat : Cfg UU := C_flat_of.add 40 m_flat_rational_rat
theorem s_flat_rational_rat : SumOK C_flat_rational_rat := by
  refine s_flat_of.addD mixed (fn := Try.f40) (c := bo Try.f40) Try.func40 (by kernel_rfl) (by kernel_rfl) ?_
  intro xs cs r h hc
  unfold m_flat_rational_rat at h
  split at h
  · rename_i a0_num a0_den
    cases h
    obtain ⟨F, hF⟩ := ok_flat_rational_rat a0_num a0_den
    refine ⟨by kernel_rfl, M_flat_rational_rat, F, false, ⟨?_⟩⟩
    rw [exec_flat_rational_rat]
    refine hF _ ?_
    rfl
  · cases h
set_option maxRecDepth 100000 in
theorem entry_flat_valid (F : Nat) (Post : AVal UU → Prop) (a0_Num : Int) (a0_Den : Int) : exec C_flat_rational_rat Try.f45.ntmps M_flat_valid F 0 (bo Try.f45) (initSt [.agg [.int .i64 a0_Num, .int .i64 a0_Den]]) (AEnds C_flat_rational_rat false Try.f45 Post) = g_flat_valid_e a0_Num a0_Den (fun r0 => Post (.bool r0)) := by kernel_rfl
theorem exec_flat_valid (F : Nat) (Post : AVal UU → Prop) (a0_Num : Int) (a0_Den : Int) : exec C_flat_rational_rat Try.f45.ntmps M_flat_valid F 0 (bo Try.f45) (initSt [.agg [.int .i64 a0_Num, .int .i64 a0_Den]]) (AEnds C_flat_rational_rat false Try.f45 Post) = w_flat_valid F a0_Num a0_Den (fun r0 => Post (.bool r0)) := by
  rw [entry_flat_valid]
  rfl
def m_flat_valid : Model UU
  | [.agg [.int .i64 a0_Num, .int .i64 a0_Den]] => some ([], .bool (sp_flat_valid a0_Num a0_Den))
  | _ => none
def C_flat_valid : Cfg UU := C_flat_rational_rat.add 45 m_flat_valid
theorem s_flat_valid : SumOK C_flat_valid := by
  refine s_flat_rational_rat.addD mixed (fn := Try.f45) (c := bo Try.f45) Try.func45 (by kernel_rfl) (by kernel_rfl) ?_
  intro xs cs r h hc
  unfold m_flat_valid at h
  split at h
  · rename_i a0_Num a0_Den
    cases h
    obtain ⟨F, hF⟩ := ok_flat_valid a0_Num a0_Den
    refine ⟨by kernel_rfl, M_flat_valid, F, false, ⟨?_⟩⟩
    rw [exec_flat_valid]
    refine hF _ ?_
    rfl
  · cases h
end
end Go.Proofs.Ytohecfbnmmgimaa

namespace Go.Proofs.Ytohecfbnmmgimaa
open Go.Vm Go.RowKit
set_option linter.unusedVariables false
noncomputable section
def k_flat_Validate_0 (F : Nat) (Post : AVal UU → Prop) : AEx → ASt UU → Prop := kBlock 0 (kSeq C_flat_valid Try.f20.ntmps M_flat_Validate F 0 (cS (cS (cS (cS (bo Try.f20))))) (AEnds C_flat_valid false Try.f20 Post))
set_option maxRecDepth 100000 in
theorem step_flat_Validate_0 (F n r : Nat) (K : AEx → ASt UU → Prop) (t2 : Int) (t3 : Int) (t43 : List Ent) (t44 : Int) (t45 : Int) : iter (exec C_flat_valid Try.f20.ntmps M_flat_Validate F 0 (cL (cB (cS (cF (cS (cS (cS (bo Try.f20))))))))) (M_flat_Validate 0) (n + 1) r (st_flat_Validate_0 t2 t3 t43 t44 t45) K = g_flat_Validate_s0 (fun t2 t3 t43 t44 t45 => iter (exec C_flat_valid Try.f20.ntmps M_flat_Validate F 0 (cL (cB (cS (cF (cS (cS (cS (bo Try.f20))))))))) (M_flat_Validate 0) n (r + 1) (st_flat_Validate_0 t2 t3 t43 t44 t45) K) (fun t2 t3 t43 t44 t45 => K .ret (st_flat_Validate_0 t2 t3 t43 t44 t45)) (fun t2 t3 t43 t44 t45 => K (.exit 0) (st_flat_Validate_0 t2 t3 t43 t44 t45)) t2 t3 t43 t44 t45 := by kernel_rfl
set_option maxRecDepth 100000 in
theorem cont_flat_Validate_0_0 (F : Nat) (Post : AVal UU → Prop) (t2 : Int) (t3 : Int) (t43 : List Ent) (t44 : Int) (t45 : Int) : k_flat_Validate_0 F Post .ret (st_flat_Validate_0 t2 t3 t43 t44 t45) = g_flat_Validate_c0_0 (fun r0 => Post (.int .i64 r0)) t2 t3 t43 t44 t45 := by kernel_rfl
set_option maxRecDepth 100000 in
theorem cont_flat_Validate_0_1 (F : Nat) (Post : AVal UU → Prop) (t2 : Int) (t3 : Int) (t43 : List Ent) (t44 : Int) (t45 : Int) : k_flat_Validate_0 F Post (.exit 0) (st_flat_Validate_0 t2 t3 t43 t44 t45) = g_flat_Validate_c0_1 (fun r0 => Post (.int .i64 r0)) t2 t3 t43 t44 t45 := by kernel_rfl
set_option maxRecDepth 100000 in
theorem entry_flat_Validate (F : Nat) (Post : AVal UU → Prop) (a0_Material : ByteArray) (a0_Gauge : Int) (a0_Die : Int) (a0_Entries : List Ent) : exec C_flat_valid Try.f20.ntmps M_flat_Validate F 0 (bo Try.f20) (initSt [.agg [.str a0_Material, .int .i64 a0_Gauge, .int .i64 a0_Die, .sl .ent a0_Entries]]) (AEnds C_flat_valid false Try.f20 Post) = g_flat_Validate_e a0_Material a0_Gauge a0_Die a0_Entries (fun r0 => Post (.int .i64 r0)) (fun t2 t3 t43 t44 t45 => iter (exec C_flat_valid Try.f20.ntmps M_flat_Validate F 0 (cL (cB (cS (cF (cS (cS (cS (bo Try.f20))))))))) (M_flat_Validate 0) F 0 (st_flat_Validate_0 t2 t3 t43 t44 t45) (k_flat_Validate_0 F Post)) := by kernel_rfl
theorem loop_flat_Validate_0 (F : Nat) (K : AEx → ASt UU → Prop) : ∀ (n r : Nat) (t2 : Int) (t3 : Int) (t43 : List Ent) (t44 : Int) (t45 : Int), iter (exec C_flat_valid Try.f20.ntmps M_flat_Validate F 0 (cL (cB (cS (cF (cS (cS (cS (bo Try.f20))))))))) (M_flat_Validate 0) n r (st_flat_Validate_0 t2 t3 t43 t44 t45) K = w_flat_Validate_0 F  (fun t2 t3 t43 t44 t45 => K .ret (st_flat_Validate_0 t2 t3 t43 t44 t45)) (fun t2 t3 t43 t44 t45 => K (.exit 0) (st_flat_Validate_0 t2 t3 t43 t44 t45)) n t2 t3 t43 t44 t45 := by
  intro n
  induction n with
  | zero => intros; rfl
  | succ n ih =>
    intro r t2 t3 t43 t44 t45
    have e : (fun t2 t3 t43 t44 t45 => iter (exec C_flat_valid Try.f20.ntmps M_flat_Validate F 0 (cL (cB (cS (cF (cS (cS (cS (bo Try.f20))))))))) (M_flat_Validate 0) n (r + 1) (st_flat_Validate_0 t2 t3 t43 t44 t45) K) = w_flat_Validate_0 F  (fun t2 t3 t43 t44 t45 => K .ret (st_flat_Validate_0 t2 t3 t43 t44 t45)) (fun t2 t3 t43 t44 t45 => K (.exit 0) (st_flat_Validate_0 t2 t3 t43 t44 t45)) n := by
      funext t2 t3 t43 t44 t45
      exact ih (r + 1) t2 t3 t43 t44 t45
    rw [step_flat_Validate_0, e]
    rfl
theorem nl_flat_Validate_0 (F : Nat) (Post : AVal UU → Prop) (t2 : Int) (t3 : Int) (t43 : List Ent) (t44 : Int) (t45 : Int) : iter (exec C_flat_valid Try.f20.ntmps M_flat_Validate F 0 (cL (cB (cS (cF (cS (cS (cS (bo Try.f20))))))))) (M_flat_Validate 0) F 0 (st_flat_Validate_0 t2 t3 t43 t44 t45) (k_flat_Validate_0 F Post) = n_flat_Validate_0 F (fun r0 => Post (.int .i64 r0)) t2 t3 t43 t44 t45 := by
  rw [loop_flat_Validate_0]
  have h0 : (fun t2 t3 t43 t44 t45 => k_flat_Validate_0 F Post .ret (st_flat_Validate_0 t2 t3 t43 t44 t45)) = (fun t2 t3 t43 t44 t45 => g_flat_Validate_c0_0 (fun r0 => Post (.int .i64 r0)) t2 t3 t43 t44 t45) := by
    funext t2 t3 t43 t44 t45
    rw [cont_flat_Validate_0_0]
  have h1 : (fun t2 t3 t43 t44 t45 => k_flat_Validate_0 F Post (.exit 0) (st_flat_Validate_0 t2 t3 t43 t44 t45)) = (fun t2 t3 t43 t44 t45 => g_flat_Validate_c0_1 (fun r0 => Post (.int .i64 r0)) t2 t3 t43 t44 t45) := by
    funext t2 t3 t43 t44 t45
    rw [cont_flat_Validate_0_1]
  rw [h0, h1]
  rfl
theorem exec_flat_Validate (F : Nat) (Post : AVal UU → Prop) (a0_Material : ByteArray) (a0_Gauge : Int) (a0_Die : Int) (a0_Entries : List Ent) : exec C_flat_valid Try.f20.ntmps M_flat_Validate F 0 (bo Try.f20) (initSt [.agg [.str a0_Material, .int .i64 a0_Gauge, .int .i64 a0_Die, .sl .ent a0_Entries]]) (AEnds C_flat_valid false Try.f20 Post) = w_flat_Validate F a0_Material a0_Gauge a0_Die a0_Entries (fun r0 => Post (.int .i64 r0)) := by
  rw [entry_flat_Validate]
  have e0 : (fun t2 t3 t43 t44 t45 => iter (exec C_flat_valid Try.f20.ntmps M_flat_Validate F 0 (cL (cB (cS (cF (cS (cS (cS (bo Try.f20))))))))) (M_flat_Validate 0) F 0 (st_flat_Validate_0 t2 t3 t43 t44 t45) (k_flat_Validate_0 F Post)) = (n_flat_Validate_0 F (fun r0 => Post (.int .i64 r0))) := by
    funext t2 t3 t43 t44 t45
    exact nl_flat_Validate_0 F Post t2 t3 t43 t44 t45
  rw [e0]
  rfl
def m_flat_Validate : Model UU
  | [.agg [.str a0_Material, .int .i64 a0_Gauge, .int .i64 a0_Die, .sl .ent a0_Entries]] => some ([pre_flat_Validate a0_Material a0_Gauge a0_Die a0_Entries], .int .i64 (sp_flat_Validate a0_Material a0_Gauge a0_Die a0_Entries))
  | _ => none
def C_flat_Validate : Cfg UU := C_flat_valid.add 20 m_flat_Validate
theorem s_flat_Validate : SumOK C_flat_Validate := by
  refine s_flat_valid.addD mixed (fn := Try.f20) (c := bo Try.f20) Try.func20 (by kernel_rfl) (by kernel_rfl) ?_
  intro xs cs r h hc
  unfold m_flat_Validate at h
  split at h
  · rename_i a0_Material a0_Gauge a0_Die a0_Entries
    cases h
    obtain ⟨F, hF⟩ := ok_flat_Validate a0_Material a0_Gauge a0_Die a0_Entries hc
    refine ⟨by kernel_rfl, M_flat_Validate, F, false, ⟨?_⟩⟩
    rw [exec_flat_Validate]
    refine hF _ ?_
    rfl
  · cases h
def k_ref03_Validate_0 (F : Nat) (Post : AVal UU → Prop) : AEx → ASt UU → Prop := kBlock 0 (kSeq C_flat_Validate Try.f21.ntmps M_ref03_Validate F 0 (cS (cS (cS (bo Try.f21)))) (AEnds C_flat_Validate false Try.f21 Post))
set_option maxRecDepth 100000 in
theorem step_ref03_Validate_0 (F n r : Nat) (K : AEx → ASt UU → Prop) (t2 : Int) (t3 : Int) (c1_0 : ByteArray) (c1_1 : Int) (c1_2 : Int) (c1_3 : List Ent) : iter (exec C_flat_Validate Try.f21.ntmps M_ref03_Validate F 0 (cL (cB (cS (cF (cS (cS (bo Try.f21)))))))) (M_ref03_Validate 0) (n + 1) r (st_ref03_Validate_0 t2 t3 c1_0 c1_1 c1_2 c1_3) K = g_ref03_Validate_s0 (fun t2 t3 c1_0 c1_1 c1_2 c1_3 => iter (exec C_flat_Validate Try.f21.ntmps M_ref03_Validate F 0 (cL (cB (cS (cF (cS (cS (bo Try.f21)))))))) (M_ref03_Validate 0) n (r + 1) (st_ref03_Validate_0 t2 t3 c1_0 c1_1 c1_2 c1_3) K) (fun t2 t3 c1_0 c1_1 c1_2 c1_3 => K .ret (st_ref03_Validate_0 t2 t3 c1_0 c1_1 c1_2 c1_3)) (fun t2 t3 c1_0 c1_1 c1_2 c1_3 => K (.exit 0) (st_ref03_Validate_0 t2 t3 c1_0 c1_1 c1_2 c1_3)) t2 t3 c1_0 c1_1 c1_2 c1_3 := by kernel_rfl
set_option maxRecDepth 100000 in
theorem cont_ref03_Validate_0_0 (F : Nat) (Post : AVal UU → Prop) (t2 : Int) (t3 : Int) (c1_0 : ByteArray) (c1_1 : Int) (c1_2 : Int) (c1_3 : List Ent) : k_ref03_Validate_0 F Post .ret (st_ref03_Validate_0 t2 t3 c1_0 c1_1 c1_2 c1_3) = g_ref03_Validate_c0_0 (fun r0 => Post (.int .i64 r0)) t2 t3 c1_0 c1_1 c1_2 c1_3 := by kernel_rfl
set_option maxRecDepth 100000 in
theorem cont_ref03_Validate_0_1 (F : Nat) (Post : AVal UU → Prop) (t2 : Int) (t3 : Int) (c1_0 : ByteArray) (c1_1 : Int) (c1_2 : Int) (c1_3 : List Ent) : k_ref03_Validate_0 F Post (.exit 0) (st_ref03_Validate_0 t2 t3 c1_0 c1_1 c1_2 c1_3) = g_ref03_Validate_c0_1 (fun r0 => Post (.int .i64 r0)) t2 t3 c1_0 c1_1 c1_2 c1_3 := by kernel_rfl
set_option maxRecDepth 100000 in
theorem entry_ref03_Validate (F : Nat) (Post : AVal UU → Prop) (a0_Material : ByteArray) (a0_Gauge : Int) (a0_Die : Int) (a0_Entries : List Ent) : exec C_flat_Validate Try.f21.ntmps M_ref03_Validate F 0 (bo Try.f21) (initSt [.agg [.str a0_Material, .int .i64 a0_Gauge, .int .i64 a0_Die, .sl .ent a0_Entries]]) (AEnds C_flat_Validate false Try.f21 Post) = g_ref03_Validate_e a0_Material a0_Gauge a0_Die a0_Entries (fun r0 => Post (.int .i64 r0)) (fun t2 t3 c1_0 c1_1 c1_2 c1_3 => iter (exec C_flat_Validate Try.f21.ntmps M_ref03_Validate F 0 (cL (cB (cS (cF (cS (cS (bo Try.f21)))))))) (M_ref03_Validate 0) F 0 (st_ref03_Validate_0 t2 t3 c1_0 c1_1 c1_2 c1_3) (k_ref03_Validate_0 F Post)) := by kernel_rfl
theorem loop_ref03_Validate_0 (F : Nat) (K : AEx → ASt UU → Prop) : ∀ (n r : Nat) (t2 : Int) (t3 : Int) (c1_0 : ByteArray) (c1_1 : Int) (c1_2 : Int) (c1_3 : List Ent), iter (exec C_flat_Validate Try.f21.ntmps M_ref03_Validate F 0 (cL (cB (cS (cF (cS (cS (bo Try.f21)))))))) (M_ref03_Validate 0) n r (st_ref03_Validate_0 t2 t3 c1_0 c1_1 c1_2 c1_3) K = w_ref03_Validate_0 F  (fun t2 t3 c1_0 c1_1 c1_2 c1_3 => K .ret (st_ref03_Validate_0 t2 t3 c1_0 c1_1 c1_2 c1_3)) (fun t2 t3 c1_0 c1_1 c1_2 c1_3 => K (.exit 0) (st_ref03_Validate_0 t2 t3 c1_0 c1_1 c1_2 c1_3)) n t2 t3 c1_0 c1_1 c1_2 c1_3 := by
  intro n
  induction n with
  | zero => intros; rfl
  | succ n ih =>
    intro r t2 t3 c1_0 c1_1 c1_2 c1_3
    have e : (fun t2 t3 c1_0 c1_1 c1_2 c1_3 => iter (exec C_flat_Validate Try.f21.ntmps M_ref03_Validate F 0 (cL (cB (cS (cF (cS (cS (bo Try.f21)))))))) (M_ref03_Validate 0) n (r + 1) (st_ref03_Validate_0 t2 t3 c1_0 c1_1 c1_2 c1_3) K) = w_ref03_Validate_0 F  (fun t2 t3 c1_0 c1_1 c1_2 c1_3 => K .ret (st_ref03_Validate_0 t2 t3 c1_0 c1_1 c1_2 c1_3)) (fun t2 t3 c1_0 c1_1 c1_2 c1_3 => K (.exit 0) (st_ref03_Validate_0 t2 t3 c1_0 c1_1 c1_2 c1_3)) n := by
      funext t2 t3 c1_0 c1_1 c1_2 c1_3
      exact ih (r + 1) t2 t3 c1_0 c1_1 c1_2 c1_3
    rw [step_ref03_Validate_0, e]
    rfl
theorem nl_ref03_Validate_0 (F : Nat) (Post : AVal UU → Prop) (t2 : Int) (t3 : Int) (c1_0 : ByteArray) (c1_1 : Int) (c1_2 : Int) (c1_3 : List Ent) : iter (exec C_flat_Validate Try.f21.ntmps M_ref03_Validate F 0 (cL (cB (cS (cF (cS (cS (bo Try.f21)))))))) (M_ref03_Validate 0) F 0 (st_ref03_Validate_0 t2 t3 c1_0 c1_1 c1_2 c1_3) (k_ref03_Validate_0 F Post) = n_ref03_Validate_0 F (fun r0 => Post (.int .i64 r0)) t2 t3 c1_0 c1_1 c1_2 c1_3 := by
  rw [loop_ref03_Validate_0]
  have h0 : (fun t2 t3 c1_0 c1_1 c1_2 c1_3 => k_ref03_Validate_0 F Post .ret (st_ref03_Validate_0 t2 t3 c1_0 c1_1 c1_2 c1_3)) = (fun t2 t3 c1_0 c1_1 c1_2 c1_3 => g_ref03_Validate_c0_0 (fun r0 => Post (.int .i64 r0)) t2 t3 c1_0 c1_1 c1_2 c1_3) := by
    funext t2 t3 c1_0 c1_1 c1_2 c1_3
    rw [cont_ref03_Validate_0_0]
  have h1 : (fun t2 t3 c1_0 c1_1 c1_2 c1_3 => k_ref03_Validate_0 F Post (.exit 0) (st_ref03_Validate_0 t2 t3 c1_0 c1_1 c1_2 c1_3)) = (fun t2 t3 c1_0 c1_1 c1_2 c1_3 => g_ref03_Validate_c0_1 (fun r0 => Post (.int .i64 r0)) t2 t3 c1_0 c1_1 c1_2 c1_3) := by
    funext t2 t3 c1_0 c1_1 c1_2 c1_3
    rw [cont_ref03_Validate_0_1]
  rw [h0, h1]
  rfl
theorem exec_ref03_Validate (F : Nat) (Post : AVal UU → Prop) (a0_Material : ByteArray) (a0_Gauge : Int) (a0_Die : Int) (a0_Entries : List Ent) : exec C_flat_Validate Try.f21.ntmps M_ref03_Validate F 0 (bo Try.f21) (initSt [.agg [.str a0_Material, .int .i64 a0_Gauge, .int .i64 a0_Die, .sl .ent a0_Entries]]) (AEnds C_flat_Validate false Try.f21 Post) = w_ref03_Validate F a0_Material a0_Gauge a0_Die a0_Entries (fun r0 => Post (.int .i64 r0)) := by
  rw [entry_ref03_Validate]
  have e0 : (fun t2 t3 c1_0 c1_1 c1_2 c1_3 => iter (exec C_flat_Validate Try.f21.ntmps M_ref03_Validate F 0 (cL (cB (cS (cF (cS (cS (bo Try.f21)))))))) (M_ref03_Validate 0) F 0 (st_ref03_Validate_0 t2 t3 c1_0 c1_1 c1_2 c1_3) (k_ref03_Validate_0 F Post)) = (n_ref03_Validate_0 F (fun r0 => Post (.int .i64 r0))) := by
    funext t2 t3 c1_0 c1_1 c1_2 c1_3
    exact nl_ref03_Validate_0 F Post t2 t3 c1_0 c1_1 c1_2 c1_3
  rw [e0]
  rfl
def m_ref03_Validate : Model UU
  | [.agg [.str a0_Material, .int .i64 a0_Gauge, .int .i64 a0_Die, .sl .ent a0_Entries]] => some ([pre_ref03_Validate a0_Material a0_Gauge a0_Die a0_Entries], .int .i64 (sp_ref03_Validate a0_Material a0_Gauge a0_Die a0_Entries))
  | _ => none
def C_ref03_Validate : Cfg UU := C_flat_Validate.add 21 m_ref03_Validate
theorem s_ref03_Validate : SumOK C_ref03_Validate := by
  refine s_flat_Validate.addD mixed (fn := Try.f21) (c := bo Try.f21) Try.func21 (by kernel_rfl) (by kernel_rfl) ?_
  intro xs cs r h hc
  unfold m_ref03_Validate at h
  split at h
  · rename_i a0_Material a0_Gauge a0_Die a0_Entries
    cases h
    obtain ⟨F, hF⟩ := ok_ref03_Validate a0_Material a0_Gauge a0_Die a0_Entries hc
    refine ⟨by kernel_rfl, M_ref03_Validate, F, false, ⟨?_⟩⟩
    rw [exec_ref03_Validate]
    refine hF _ ?_
    rfl
  · cases h
end
end Go.Proofs.Ytohecfbnmmgimaa

namespace Go.Proofs.Ytohecfbnmmgimaa
open Go.Vm Go.RowKit
set_option linter.unusedVariables false
noncomputable section
def k_flat_rational_reduced_0 (F : Nat) (Post : AVal UU → Prop) : AEx → ASt UU → Prop := kBlock 0 (kSeq C_ref03_Validate Try.f53.ntmps M_flat_rational_reduced F 0 (cS (cS (cS (cS (bo Try.f53))))) (AEnds C_ref03_Validate false Try.f53 Post))
set_option maxRecDepth 100000 in
theorem step_flat_rational_reduced_0 (F n r : Nat) (K : AEx → ASt UU → Prop) (t3 : Int) (t4 : Int) (c1_0 : Int) (c1_1 : Int) (c2_0 : Int) (c2_1 : Int) : iter (exec C_ref03_Validate Try.f53.ntmps M_flat_rational_reduced F 0 (cL (cB (cF (cS (cS (cS (bo Try.f53)))))))) (M_flat_rational_reduced 0) (n + 1) r (st_flat_rational_reduced_0 t3 t4 c1_0 c1_1 c2_0 c2_1) K = g_flat_rational_reduced_s0 (fun t3 t4 c1_0 c1_1 c2_0 c2_1 => iter (exec C_ref03_Validate Try.f53.ntmps M_flat_rational_reduced F 0 (cL (cB (cF (cS (cS (cS (bo Try.f53)))))))) (M_flat_rational_reduced 0) n (r + 1) (st_flat_rational_reduced_0 t3 t4 c1_0 c1_1 c2_0 c2_1) K) (fun t3 t4 c1_0 c1_1 c2_0 c2_1 => K (.exit 0) (st_flat_rational_reduced_0 t3 t4 c1_0 c1_1 c2_0 c2_1)) t3 t4 c1_0 c1_1 c2_0 c2_1 := by kernel_rfl
set_option maxRecDepth 100000 in
theorem cont_flat_rational_reduced_0_0 (F : Nat) (Post : AVal UU → Prop) (t3 : Int) (t4 : Int) (c1_0 : Int) (c1_1 : Int) (c2_0 : Int) (c2_1 : Int) : k_flat_rational_reduced_0 F Post (.exit 0) (st_flat_rational_reduced_0 t3 t4 c1_0 c1_1 c2_0 c2_1) = g_flat_rational_reduced_c0_0 (fun r0_num r0_den => Post (.agg [.int .i64 r0_num, .int .i64 r0_den])) t3 t4 c1_0 c1_1 c2_0 c2_1 := by kernel_rfl
set_option maxRecDepth 100000 in
theorem entry_flat_rational_reduced (F : Nat) (Post : AVal UU → Prop) (a0_num : Int) (a0_den : Int) : exec C_ref03_Validate Try.f53.ntmps M_flat_rational_reduced F 0 (bo Try.f53) (initSt [.agg [.int .i64 a0_num, .int .i64 a0_den]]) (AEnds C_ref03_Validate false Try.f53 Post) = g_flat_rational_reduced_e a0_num a0_den (fun r0_num r0_den => Post (.agg [.int .i64 r0_num, .int .i64 r0_den])) (fun t3 t4 c1_0 c1_1 c2_0 c2_1 => iter (exec C_ref03_Validate Try.f53.ntmps M_flat_rational_reduced F 0 (cL (cB (cF (cS (cS (cS (bo Try.f53)))))))) (M_flat_rational_reduced 0) F 0 (st_flat_rational_reduced_0 t3 t4 c1_0 c1_1 c2_0 c2_1) (k_flat_rational_reduced_0 F Post)) := by kernel_rfl
theorem loop_flat_rational_reduced_0 (F : Nat) (K : AEx → ASt UU → Prop) : ∀ (n r : Nat) (t3 : Int) (t4 : Int) (c1_0 : Int) (c1_1 : Int) (c2_0 : Int) (c2_1 : Int), iter (exec C_ref03_Validate Try.f53.ntmps M_flat_rational_reduced F 0 (cL (cB (cF (cS (cS (cS (bo Try.f53)))))))) (M_flat_rational_reduced 0) n r (st_flat_rational_reduced_0 t3 t4 c1_0 c1_1 c2_0 c2_1) K = w_flat_rational_reduced_0 F  (fun t3 t4 c1_0 c1_1 c2_0 c2_1 => K (.exit 0) (st_flat_rational_reduced_0 t3 t4 c1_0 c1_1 c2_0 c2_1)) n t3 t4 c1_0 c1_1 c2_0 c2_1 := by
  intro n
  induction n with
  | zero => intros; rfl
  | succ n ih =>
    intro r t3 t4 c1_0 c1_1 c2_0 c2_1
    have e : (fun t3 t4 c1_0 c1_1 c2_0 c2_1 => iter (exec C_ref03_Validate Try.f53.ntmps M_flat_rational_reduced F 0 (cL (cB (cF (cS (cS (cS (bo Try.f53)))))))) (M_flat_rational_reduced 0) n (r + 1) (st_flat_rational_reduced_0 t3 t4 c1_0 c1_1 c2_0 c2_1) K) = w_flat_rational_reduced_0 F  (fun t3 t4 c1_0 c1_1 c2_0 c2_1 => K (.exit 0) (st_flat_rational_reduced_0 t3 t4 c1_0 c1_1 c2_0 c2_1)) n := by
      funext t3 t4 c1_0 c1_1 c2_0 c2_1
      exact ih (r + 1) t3 t4 c1_0 c1_1 c2_0 c2_1
    rw [step_flat_rational_reduced_0, e]
    rfl
theorem nl_flat_rational_reduced_0 (F : Nat) (Post : AVal UU → Prop) (t3 : Int) (t4 : Int) (c1_0 : Int) (c1_1 : Int) (c2_0 : Int) (c2_1 : Int) : iter (exec C_ref03_Validate Try.f53.ntmps M_flat_rational_reduced F 0 (cL (cB (cF (cS (cS (cS (bo Try.f53)))))))) (M_flat_rational_reduced 0) F 0 (st_flat_rational_reduced_0 t3 t4 c1_0 c1_1 c2_0 c2_1) (k_flat_rational_reduced_0 F Post) = n_flat_rational_reduced_0 F (fun r0_num r0_den => Post (.agg [.int .i64 r0_num, .int .i64 r0_den])) t3 t4 c1_0 c1_1 c2_0 c2_1 := by
  rw [loop_flat_rational_reduced_0]
  have h0 : (fun t3 t4 c1_0 c1_1 c2_0 c2_1 => k_flat_rational_reduced_0 F Post (.exit 0) (st_flat_rational_reduced_0 t3 t4 c1_0 c1_1 c2_0 c2_1)) = (fun t3 t4 c1_0 c1_1 c2_0 c2_1 => g_flat_rational_reduced_c0_0 (fun r0_num r0_den => Post (.agg [.int .i64 r0_num, .int .i64 r0_den])) t3 t4 c1_0 c1_1 c2_0 c2_1) := by
    funext t3 t4 c1_0 c1_1 c2_0 c2_1
    rw [cont_flat_rational_reduced_0_0]
  rw [h0]
  rfl
theorem exec_flat_rational_reduced (F : Nat) (Post : AVal UU → Prop) (a0_num : Int) (a0_den : Int) : exec C_ref03_Validate Try.f53.ntmps M_flat_rational_reduced F 0 (bo Try.f53) (initSt [.agg [.int .i64 a0_num, .int .i64 a0_den]]) (AEnds C_ref03_Validate false Try.f53 Post) = w_flat_rational_reduced F a0_num a0_den (fun r0_num r0_den => Post (.agg [.int .i64 r0_num, .int .i64 r0_den])) := by
  rw [entry_flat_rational_reduced]
  have e0 : (fun t3 t4 c1_0 c1_1 c2_0 c2_1 => iter (exec C_ref03_Validate Try.f53.ntmps M_flat_rational_reduced F 0 (cL (cB (cF (cS (cS (cS (bo Try.f53)))))))) (M_flat_rational_reduced 0) F 0 (st_flat_rational_reduced_0 t3 t4 c1_0 c1_1 c2_0 c2_1) (k_flat_rational_reduced_0 F Post)) = (n_flat_rational_reduced_0 F (fun r0_num r0_den => Post (.agg [.int .i64 r0_num, .int .i64 r0_den]))) := by
    funext t3 t4 c1_0 c1_1 c2_0 c2_1
    exact nl_flat_rational_reduced_0 F Post t3 t4 c1_0 c1_1 c2_0 c2_1
  rw [e0]
  rfl
def m_flat_rational_reduced : Model UU
  | [.agg [.int .i64 a0_num, .int .i64 a0_den]] => some ([pre_flat_rational_reduced a0_num a0_den], .agg [.int .i64 ((sp_flat_rational_reduced a0_num a0_den).1), .int .i64 ((sp_flat_rational_reduced a0_num a0_den).2)])
  | _ => none
def C_flat_rational_reduced : Cfg UU := C_ref03_Validate.add 53 m_flat_rational_reduced
theorem s_flat_rational_reduced : SumOK C_flat_rational_reduced := by
  refine s_ref03_Validate.addD mixed (fn := Try.f53) (c := bo Try.f53) Try.func53 (by kernel_rfl) (by kernel_rfl) ?_
  intro xs cs r h hc
  unfold m_flat_rational_reduced at h
  split at h
  · rename_i a0_num a0_den
    cases h
    obtain ⟨F, hF⟩ := ok_flat_rational_reduced a0_num a0_den hc
    refine ⟨by kernel_rfl, M_flat_rational_reduced, F, false, ⟨?_⟩⟩
    rw [exec_flat_rational_reduced]
    refine hF _ ?_
    rfl
  · cases h
def k_ref03_lowest_0 (F : Nat) (Post : AVal UU → Prop) : AEx → ASt UU → Prop := kBlock 0 (kSeq C_flat_rational_reduced Try.f66.ntmps M_ref03_lowest F 0 (cS (cS (cS (cS (bo Try.f66))))) (AEnds C_flat_rational_reduced false Try.f66 Post))
set_option maxRecDepth 100000 in
theorem step_ref03_lowest_0 (F n r : Nat) (K : AEx → ASt UU → Prop) (t0 : Int) (t1 : Int) (t5 : Int) (t6 : Int) (c4_0 : Int) (c4_1 : Int) : iter (exec C_flat_rational_reduced Try.f66.ntmps M_ref03_lowest F 0 (cL (cB (cF (cS (cS (cS (bo Try.f66)))))))) (M_ref03_lowest 0) (n + 1) r (st_ref03_lowest_0 t0 t1 t5 t6 c4_0 c4_1) K = g_ref03_lowest_s0 (fun t0 t1 t5 t6 c4_0 c4_1 => iter (exec C_flat_rational_reduced Try.f66.ntmps M_ref03_lowest F 0 (cL (cB (cF (cS (cS (cS (bo Try.f66)))))))) (M_ref03_lowest 0) n (r + 1) (st_ref03_lowest_0 t0 t1 t5 t6 c4_0 c4_1) K) (fun t0 t1 t5 t6 c4_0 c4_1 => K (.exit 0) (st_ref03_lowest_0 t0 t1 t5 t6 c4_0 c4_1)) t0 t1 t5 t6 c4_0 c4_1 := by kernel_rfl
set_option maxRecDepth 100000 in
theorem cont_ref03_lowest_0_0 (F : Nat) (Post : AVal UU → Prop) (t0 : Int) (t1 : Int) (t5 : Int) (t6 : Int) (c4_0 : Int) (c4_1 : Int) : k_ref03_lowest_0 F Post (.exit 0) (st_ref03_lowest_0 t0 t1 t5 t6 c4_0 c4_1) = g_ref03_lowest_c0_0 (fun r0_Num r0_Den => Post (.agg [.int .i64 r0_Num, .int .i64 r0_Den])) t0 t1 t5 t6 c4_0 c4_1 := by kernel_rfl
set_option maxRecDepth 100000 in
theorem entry_ref03_lowest (F : Nat) (Post : AVal UU → Prop) (a0 : Int) (a1 : Int) : exec C_flat_rational_reduced Try.f66.ntmps M_ref03_lowest F 0 (bo Try.f66) (initSt [.int .i64 a0, .int .i64 a1]) (AEnds C_flat_rational_reduced false Try.f66 Post) = g_ref03_lowest_e a0 a1 (fun r0_Num r0_Den => Post (.agg [.int .i64 r0_Num, .int .i64 r0_Den])) (fun t0 t1 t5 t6 c4_0 c4_1 => iter (exec C_flat_rational_reduced Try.f66.ntmps M_ref03_lowest F 0 (cL (cB (cF (cS (cS (cS (bo Try.f66)))))))) (M_ref03_lowest 0) F 0 (st_ref03_lowest_0 t0 t1 t5 t6 c4_0 c4_1) (k_ref03_lowest_0 F Post)) := by kernel_rfl
theorem loop_ref03_lowest_0 (F : Nat) (K : AEx → ASt UU → Prop) : ∀ (n r : Nat) (t0 : Int) (t1 : Int) (t5 : Int) (t6 : Int) (c4_0 : Int) (c4_1 : Int), iter (exec C_flat_rational_reduced Try.f66.ntmps M_ref03_lowest F 0 (cL (cB (cF (cS (cS (cS (bo Try.f66)))))))) (M_ref03_lowest 0) n r (st_ref03_lowest_0 t0 t1 t5 t6 c4_0 c4_1) K = w_ref03_lowest_0 F  (fun t0 t1 t5 t6 c4_0 c4_1 => K (.exit 0) (st_ref03_lowest_0 t0 t1 t5 t6 c4_0 c4_1)) n t0 t1 t5 t6 c4_0 c4_1 := by
  intro n
  induction n with
  | zero => intros; rfl
  | succ n ih =>
    intro r t0 t1 t5 t6 c4_0 c4_1
    have e : (fun t0 t1 t5 t6 c4_0 c4_1 => iter (exec C_flat_rational_reduced Try.f66.ntmps M_ref03_lowest F 0 (cL (cB (cF (cS (cS (cS (bo Try.f66)))))))) (M_ref03_lowest 0) n (r + 1) (st_ref03_lowest_0 t0 t1 t5 t6 c4_0 c4_1) K) = w_ref03_lowest_0 F  (fun t0 t1 t5 t6 c4_0 c4_1 => K (.exit 0) (st_ref03_lowest_0 t0 t1 t5 t6 c4_0 c4_1)) n := by
      funext t0 t1 t5 t6 c4_0 c4_1
      exact ih (r + 1) t0 t1 t5 t6 c4_0 c4_1
    rw [step_ref03_lowest_0, e]
    rfl
theorem nl_ref03_lowest_0 (F : Nat) (Post : AVal UU → Prop) (t0 : Int) (t1 : Int) (t5 : Int) (t6 : Int) (c4_0 : Int) (c4_1 : Int) : iter (exec C_flat_rational_reduced Try.f66.ntmps M_ref03_lowest F 0 (cL (cB (cF (cS (cS (cS (bo Try.f66)))))))) (M_ref03_lowest 0) F 0 (st_ref03_lowest_0 t0 t1 t5 t6 c4_0 c4_1) (k_ref03_lowest_0 F Post) = n_ref03_lowest_0 F (fun r0_Num r0_Den => Post (.agg [.int .i64 r0_Num, .int .i64 r0_Den])) t0 t1 t5 t6 c4_0 c4_1 := by
  rw [loop_ref03_lowest_0]
  have h0 : (fun t0 t1 t5 t6 c4_0 c4_1 => k_ref03_lowest_0 F Post (.exit 0) (st_ref03_lowest_0 t0 t1 t5 t6 c4_0 c4_1)) = (fun t0 t1 t5 t6 c4_0 c4_1 => g_ref03_lowest_c0_0 (fun r0_Num r0_Den => Post (.agg [.int .i64 r0_Num, .int .i64 r0_Den])) t0 t1 t5 t6 c4_0 c4_1) := by
    funext t0 t1 t5 t6 c4_0 c4_1
    rw [cont_ref03_lowest_0_0]
  rw [h0]
  rfl
theorem exec_ref03_lowest (F : Nat) (Post : AVal UU → Prop) (a0 : Int) (a1 : Int) : exec C_flat_rational_reduced Try.f66.ntmps M_ref03_lowest F 0 (bo Try.f66) (initSt [.int .i64 a0, .int .i64 a1]) (AEnds C_flat_rational_reduced false Try.f66 Post) = w_ref03_lowest F a0 a1 (fun r0_Num r0_Den => Post (.agg [.int .i64 r0_Num, .int .i64 r0_Den])) := by
  rw [entry_ref03_lowest]
  have e0 : (fun t0 t1 t5 t6 c4_0 c4_1 => iter (exec C_flat_rational_reduced Try.f66.ntmps M_ref03_lowest F 0 (cL (cB (cF (cS (cS (cS (bo Try.f66)))))))) (M_ref03_lowest 0) F 0 (st_ref03_lowest_0 t0 t1 t5 t6 c4_0 c4_1) (k_ref03_lowest_0 F Post)) = (n_ref03_lowest_0 F (fun r0_Num r0_Den => Post (.agg [.int .i64 r0_Num, .int .i64 r0_Den]))) := by
    funext t0 t1 t5 t6 c4_0 c4_1
    exact nl_ref03_lowest_0 F Post t0 t1 t5 t6 c4_0 c4_1
  rw [e0]
  rfl
def m_ref03_lowest : Model UU
  | [.int .i64 a0, .int .i64 a1] => some ([pre_ref03_lowest a0 a1], .agg [.int .i64 ((sp_ref03_lowest a0 a1).1), .int .i64 ((sp_ref03_lowest a0 a1).2)])
  | _ => none
def C_ref03_lowest : Cfg UU := C_flat_rational_reduced.add 66 m_ref03_lowest
theorem s_ref03_lowest : SumOK C_ref03_lowest := by
  refine s_flat_rational_reduced.addD mixed (fn := Try.f66) (c := bo Try.f66) Try.func66 (by kernel_rfl) (by kernel_rfl) ?_
  intro xs cs r h hc
  unfold m_ref03_lowest at h
  split at h
  · rename_i a0 a1
    cases h
    obtain ⟨F, hF⟩ := ok_ref03_lowest a0 a1 hc
    refine ⟨by kernel_rfl, M_ref03_lowest, F, false, ⟨?_⟩⟩
    rw [exec_ref03_lowest]
    refine hF _ ?_
    rfl
  · cases h
end
end Go.Proofs.Ytohecfbnmmgimaa

namespace Go.Proofs.Ytohecfbnmmgimaa
open Go.Vm Go.RowKit
set_option linter.unusedVariables false
noncomputable section
set_option maxRecDepth 100000 in
theorem entry_flat_rational_times (F : Nat) (Post : AVal UU → Prop) (a0_num : Int) (a0_den : Int) (a1_num : Int) (a1_den : Int) : exec C_ref03_lowest Try.f47.ntmps M_flat_rational_times F 0 (bo Try.f47) (initSt [.agg [.int .i64 a0_num, .int .i64 a0_den], .agg [.int .i64 a1_num, .int .i64 a1_den]]) (AEnds C_ref03_lowest false Try.f47 Post) = g_flat_rational_times_e a0_num a0_den a1_num a1_den (fun r0_num r0_den => Post (.agg [.int .i64 r0_num, .int .i64 r0_den])) := by kernel_rfl
theorem exec_flat_rational_times (F : Nat) (Post : AVal UU → Prop) (a0_num : Int) (a0_den : Int) (a1_num : Int) (a1_den : Int) : exec C_ref03_lowest Try.f47.ntmps M_flat_rational_times F 0 (bo Try.f47) (initSt [.agg [.int .i64 a0_num, .int .i64 a0_den], .agg [.int .i64 a1_num, .int .i64 a1_den]]) (AEnds C_ref03_lowest false Try.f47 Post) = w_flat_rational_times F a0_num a0_den a1_num a1_den (fun r0_num r0_den => Post (.agg [.int .i64 r0_num, .int .i64 r0_den])) := by
  rw [entry_flat_rational_times]
  rfl
def m_flat_rational_times : Model UU
  | [.agg [.int .i64 a0_num, .int .i64 a0_den], .agg [.int .i64 a1_num, .int .i64 a1_den]] => some ([pre_flat_rational_times a0_num a0_den a1_num a1_den], .agg [.int .i64 ((sp_flat_rational_times a0_num a0_den a1_num a1_den).1), .int .i64 ((sp_flat_rational_times a0_num a0_den a1_num a1_den).2)])
  | _ => none
def C_flat_rational_times : Cfg UU := C_ref03_lowest.add 47 m_flat_rational_times
theorem s_flat_rational_times : SumOK C_flat_rational_times := by
  refine s_ref03_lowest.addD mixed (fn := Try.f47) (c := bo Try.f47) Try.func47 (by kernel_rfl) (by kernel_rfl) ?_
  intro xs cs r h hc
  unfold m_flat_rational_times at h
  split at h
  · rename_i a0_num a0_den a1_num a1_den
    cases h
    obtain ⟨F, hF⟩ := ok_flat_rational_times a0_num a0_den a1_num a1_den hc
    refine ⟨by kernel_rfl, M_flat_rational_times, F, false, ⟨?_⟩⟩
    rw [exec_flat_rational_times]
    refine hF _ ?_
    rfl
  · cases h
set_option maxRecDepth 100000 in
theorem entry_flat_Reduce (F : Nat) (Post : AVal UU → Prop) (a0_Num : Int) (a0_Den : Int) : exec C_flat_rational_times Try.f26.ntmps M_flat_Reduce F 0 (bo Try.f26) (initSt [.agg [.int .i64 a0_Num, .int .i64 a0_Den]]) (AEnds C_flat_rational_times false Try.f26 Post) = g_flat_Reduce_e a0_Num a0_Den (fun r0_Num r0_Den r1 => Post (.tup [.agg [.int .i64 r0_Num, .int .i64 r0_Den], .int .i64 r1])) := by kernel_rfl
theorem exec_flat_Reduce (F : Nat) (Post : AVal UU → Prop) (a0_Num : Int) (a0_Den : Int) : exec C_flat_rational_times Try.f26.ntmps M_flat_Reduce F 0 (bo Try.f26) (initSt [.agg [.int .i64 a0_Num, .int .i64 a0_Den]]) (AEnds C_flat_rational_times false Try.f26 Post) = w_flat_Reduce F a0_Num a0_Den (fun r0_Num r0_Den r1 => Post (.tup [.agg [.int .i64 r0_Num, .int .i64 r0_Den], .int .i64 r1])) := by
  rw [entry_flat_Reduce]
  rfl
def m_flat_Reduce : Model UU
  | [.agg [.int .i64 a0_Num, .int .i64 a0_Den]] => some ([pre_flat_Reduce a0_Num a0_Den], .tup [.agg [.int .i64 ((sp_flat_Reduce a0_Num a0_Den).1), .int .i64 ((sp_flat_Reduce a0_Num a0_Den).2.1)], .int .i64 ((sp_flat_Reduce a0_Num a0_Den).2.2)])
  | _ => none
def C_flat_Reduce : Cfg UU := C_flat_rational_times.add 26 m_flat_Reduce
theorem s_flat_Reduce : SumOK C_flat_Reduce := by
  refine s_flat_rational_times.addD mixed (fn := Try.f26) (c := bo Try.f26) Try.func26 (by kernel_rfl) (by kernel_rfl) ?_
  intro xs cs r h hc
  unfold m_flat_Reduce at h
  split at h
  · rename_i a0_Num a0_Den
    cases h
    obtain ⟨F, hF⟩ := ok_flat_Reduce a0_Num a0_Den hc
    refine ⟨by kernel_rfl, M_flat_Reduce, F, false, ⟨?_⟩⟩
    rw [exec_flat_Reduce]
    refine hF _ ?_
    rfl
  · cases h
end
end Go.Proofs.Ytohecfbnmmgimaa

namespace Go.Proofs.Ytohecfbnmmgimaa
open Go.Vm Go.RowKit
set_option linter.unusedVariables false
noncomputable section
set_option maxRecDepth 100000 in
theorem entry_flat_Ticks (F : Nat) (Post : AVal UU → Prop) (a0_Num : Int) (a0_Den : Int) : exec C_flat_Reduce Try.f22.ntmps M_flat_Ticks F 0 (bo Try.f22) (initSt [.agg [.int .i64 a0_Num, .int .i64 a0_Den]]) (AEnds C_flat_Reduce false Try.f22 Post) = g_flat_Ticks_e a0_Num a0_Den (fun r0 r1 => Post (.tup [.int .i64 r0, .int .i64 r1])) := by kernel_rfl
theorem exec_flat_Ticks (F : Nat) (Post : AVal UU → Prop) (a0_Num : Int) (a0_Den : Int) : exec C_flat_Reduce Try.f22.ntmps M_flat_Ticks F 0 (bo Try.f22) (initSt [.agg [.int .i64 a0_Num, .int .i64 a0_Den]]) (AEnds C_flat_Reduce false Try.f22 Post) = w_flat_Ticks F a0_Num a0_Den (fun r0 r1 => Post (.tup [.int .i64 r0, .int .i64 r1])) := by
  rw [entry_flat_Ticks]
  rfl
def m_flat_Ticks : Model UU
  | [.agg [.int .i64 a0_Num, .int .i64 a0_Den]] => some ([pre_flat_Ticks a0_Num a0_Den], .tup [.int .i64 ((sp_flat_Ticks a0_Num a0_Den).1), .int .i64 ((sp_flat_Ticks a0_Num a0_Den).2)])
  | _ => none
def C_flat_Ticks : Cfg UU := C_flat_Reduce.add 22 m_flat_Ticks
theorem s_flat_Ticks : SumOK C_flat_Ticks := by
  refine s_flat_Reduce.addD mixed (fn := Try.f22) (c := bo Try.f22) Try.func22 (by kernel_rfl) (by kernel_rfl) ?_
  intro xs cs r h hc
  unfold m_flat_Ticks at h
  split at h
  · rename_i a0_Num a0_Den
    cases h
    obtain ⟨F, hF⟩ := ok_flat_Ticks a0_Num a0_Den hc
    refine ⟨by kernel_rfl, M_flat_Ticks, F, false, ⟨?_⟩⟩
    rw [exec_flat_Ticks]
    refine hF _ ?_
    rfl
  · cases h
end
end Go.Proofs.Ytohecfbnmmgimaa

namespace Go.Proofs.Ytohecfbnmmgimaa
open Go.Vm Go.RowKit
set_option linter.unusedVariables false
noncomputable section
set_option maxRecDepth 100000 in
theorem entry_law03_known (F : Nat) (Post : AVal UU → Prop)  : exec C_flat_Ticks Try.f9.ntmps M_law03_known F 0 (bo Try.f9) (initSt []) (AEnds C_flat_Ticks false Try.f9 Post) = g_law03_known_e  (fun r0 => Post (.bool r0)) := by kernel_rfl
theorem exec_law03_known (F : Nat) (Post : AVal UU → Prop)  : exec C_flat_Ticks Try.f9.ntmps M_law03_known F 0 (bo Try.f9) (initSt []) (AEnds C_flat_Ticks false Try.f9 Post) = w_law03_known F  (fun r0 => Post (.bool r0)) := by
  rw [entry_law03_known]
  rfl
def m_law03_known : Model UU
  | [] => some ([pre_law03_known ], .bool sp_law03_known)
  | _ => none
def C_law03_known : Cfg UU := C_flat_Ticks.add 9 m_law03_known
theorem s_law03_known : SumOK C_law03_known := by
  refine s_flat_Ticks.addD mixed (fn := Try.f9) (c := bo Try.f9) Try.func9 (by kernel_rfl) (by kernel_rfl) ?_
  intro xs cs r h hc
  unfold m_law03_known at h
  split at h
  · cases h
    obtain ⟨F, hF⟩ := ok_law03_known  hc
    refine ⟨by kernel_rfl, M_law03_known, F, false, ⟨?_⟩⟩
    rw [exec_law03_known]
    refine hF _ ?_
    rfl
  · cases h
end
end Go.Proofs.Ytohecfbnmmgimaa

namespace Go.Proofs.Ytohecfbnmmgimaa
open Go.Vm Go.RowKit
set_option linter.unusedVariables false
noncomputable section
set_option maxRecDepth 100000 in
theorem entry_geom_within (F : Nat) (Post : AVal UU → Prop) (a0 : Int) (a1 : Int) : exec C_law03_known Try.f79.ntmps M_geom_within F 0 (bo Try.f79) (initSt [.int .i64 a0, .int .i64 a1]) (AEnds C_law03_known false Try.f79 Post) = g_geom_within_e a0 a1 (fun r0 => Post (.bool r0)) := by kernel_rfl
theorem exec_geom_within (F : Nat) (Post : AVal UU → Prop) (a0 : Int) (a1 : Int) : exec C_law03_known Try.f79.ntmps M_geom_within F 0 (bo Try.f79) (initSt [.int .i64 a0, .int .i64 a1]) (AEnds C_law03_known false Try.f79 Post) = w_geom_within F a0 a1 (fun r0 => Post (.bool r0)) := by
  rw [entry_geom_within]
  rfl
def m_geom_within : Model UU
  | [.int .i64 a0, .int .i64 a1] => some ([], .bool (sp_geom_within a0 a1))
  | _ => none
def C_geom_within : Cfg UU := C_law03_known.add 79 m_geom_within
theorem s_geom_within : SumOK C_geom_within := by
  refine s_law03_known.addD mixed (fn := Try.f79) (c := bo Try.f79) Try.func79 (by kernel_rfl) (by kernel_rfl) ?_
  intro xs cs r h hc
  unfold m_geom_within at h
  split at h
  · rename_i a0 a1
    cases h
    obtain ⟨F, hF⟩ := ok_geom_within a0 a1
    refine ⟨by kernel_rfl, M_geom_within, F, false, ⟨?_⟩⟩
    rw [exec_geom_within]
    refine hF _ ?_
    rfl
  · cases h
set_option maxRecDepth 100000 in
theorem entry_geom_ValidRect_1 (F : Nat) (Post : AVal UU → Prop) (a0 : Int) (a1 : Int) : exec C_geom_within Try.f78.ntmps M_geom_ValidRect_1 F 0 (bo Try.f78) (initSt [.int .i64 a0, .int .i64 a1]) (AEnds C_geom_within false Try.f78 Post) = g_geom_ValidRect_1_e a0 a1 (fun r0 => Post (.bool r0)) := by kernel_rfl
theorem exec_geom_ValidRect_1 (F : Nat) (Post : AVal UU → Prop) (a0 : Int) (a1 : Int) : exec C_geom_within Try.f78.ntmps M_geom_ValidRect_1 F 0 (bo Try.f78) (initSt [.int .i64 a0, .int .i64 a1]) (AEnds C_geom_within false Try.f78 Post) = w_geom_ValidRect_1 F a0 a1 (fun r0 => Post (.bool r0)) := by
  rw [entry_geom_ValidRect_1]
  rfl
def m_geom_ValidRect_1 : Model UU
  | [.int .i64 a0, .int .i64 a1] => some ([], .bool (sp_geom_ValidRect_1 a0 a1))
  | _ => none
def C_geom_ValidRect_1 : Cfg UU := C_geom_within.add 78 m_geom_ValidRect_1
theorem s_geom_ValidRect_1 : SumOK C_geom_ValidRect_1 := by
  refine s_geom_within.addD mixed (fn := Try.f78) (c := bo Try.f78) Try.func78 (by kernel_rfl) (by kernel_rfl) ?_
  intro xs cs r h hc
  unfold m_geom_ValidRect_1 at h
  split at h
  · rename_i a0 a1
    cases h
    obtain ⟨F, hF⟩ := ok_geom_ValidRect_1 a0 a1
    refine ⟨by kernel_rfl, M_geom_ValidRect_1, F, false, ⟨?_⟩⟩
    rw [exec_geom_ValidRect_1]
    refine hF _ ?_
    rfl
  · cases h
set_option maxRecDepth 100000 in
theorem entry_geom_ValidRect (F : Nat) (Post : AVal UU → Prop) (a0_X : Int) (a0_Y : Int) (a0_W : Int) (a0_H : Int) : exec C_geom_ValidRect_1 Try.f54.ntmps M_geom_ValidRect F 0 (bo Try.f54) (initSt [.agg [.int .i64 a0_X, .int .i64 a0_Y, .int .i64 a0_W, .int .i64 a0_H]]) (AEnds C_geom_ValidRect_1 false Try.f54 Post) = g_geom_ValidRect_e a0_X a0_Y a0_W a0_H (fun r0 => Post (.bool r0)) := by kernel_rfl
theorem exec_geom_ValidRect (F : Nat) (Post : AVal UU → Prop) (a0_X : Int) (a0_Y : Int) (a0_W : Int) (a0_H : Int) : exec C_geom_ValidRect_1 Try.f54.ntmps M_geom_ValidRect F 0 (bo Try.f54) (initSt [.agg [.int .i64 a0_X, .int .i64 a0_Y, .int .i64 a0_W, .int .i64 a0_H]]) (AEnds C_geom_ValidRect_1 false Try.f54 Post) = w_geom_ValidRect F a0_X a0_Y a0_W a0_H (fun r0 => Post (.bool r0)) := by
  rw [entry_geom_ValidRect]
  rfl
def m_geom_ValidRect : Model UU
  | [.agg [.int .i64 a0_X, .int .i64 a0_Y, .int .i64 a0_W, .int .i64 a0_H]] => some ([], .bool (sp_geom_ValidRect a0_X a0_Y a0_W a0_H))
  | _ => none
def C_geom_ValidRect : Cfg UU := C_geom_ValidRect_1.add 54 m_geom_ValidRect
theorem s_geom_ValidRect : SumOK C_geom_ValidRect := by
  refine s_geom_ValidRect_1.addD mixed (fn := Try.f54) (c := bo Try.f54) Try.func54 (by kernel_rfl) (by kernel_rfl) ?_
  intro xs cs r h hc
  unfold m_geom_ValidRect at h
  split at h
  · rename_i a0_X a0_Y a0_W a0_H
    cases h
    obtain ⟨F, hF⟩ := ok_geom_ValidRect a0_X a0_Y a0_W a0_H
    refine ⟨by kernel_rfl, M_geom_ValidRect, F, false, ⟨?_⟩⟩
    rw [exec_geom_ValidRect]
    refine hF _ ?_
    rfl
  · cases h
set_option maxRecDepth 100000 in
theorem entry_ref01_within (F : Nat) (Post : AVal UU → Prop) (a0 : Int) (a1 : Int) (a2 : Int) : exec C_geom_ValidRect Try.f94.ntmps M_ref01_within F 0 (bo Try.f94) (initSt [.int .i64 a0, .int .i64 a1, .int .i64 a2]) (AEnds C_geom_ValidRect false Try.f94 Post) = g_ref01_within_e a0 a1 a2 (fun r0 => Post (.bool r0)) := by kernel_rfl
theorem exec_ref01_within (F : Nat) (Post : AVal UU → Prop) (a0 : Int) (a1 : Int) (a2 : Int) : exec C_geom_ValidRect Try.f94.ntmps M_ref01_within F 0 (bo Try.f94) (initSt [.int .i64 a0, .int .i64 a1, .int .i64 a2]) (AEnds C_geom_ValidRect false Try.f94 Post) = w_ref01_within F a0 a1 a2 (fun r0 => Post (.bool r0)) := by
  rw [entry_ref01_within]
  rfl
def m_ref01_within : Model UU
  | [.int .i64 a0, .int .i64 a1, .int .i64 a2] => some ([], .bool (sp_ref01_within a0 a1 a2))
  | _ => none
def C_ref01_within : Cfg UU := C_geom_ValidRect.add 94 m_ref01_within
theorem s_ref01_within : SumOK C_ref01_within := by
  refine s_geom_ValidRect.addD mixed (fn := Try.f94) (c := bo Try.f94) Try.func94 (by kernel_rfl) (by kernel_rfl) ?_
  intro xs cs r h hc
  unfold m_ref01_within at h
  split at h
  · rename_i a0 a1 a2
    cases h
    obtain ⟨F, hF⟩ := ok_ref01_within a0 a1 a2
    refine ⟨by kernel_rfl, M_ref01_within, F, false, ⟨?_⟩⟩
    rw [exec_ref01_within]
    refine hF _ ?_
    rfl
  · cases h
set_option maxRecDepth 100000 in
theorem entry_ref01_ValidRect (F : Nat) (Post : AVal UU → Prop) (a0_X : Int) (a0_Y : Int) (a0_W : Int) (a0_H : Int) : exec C_ref01_within Try.f88.ntmps M_ref01_ValidRect F 0 (bo Try.f88) (initSt [.agg [.int .i64 a0_X, .int .i64 a0_Y, .int .i64 a0_W, .int .i64 a0_H]]) (AEnds C_ref01_within false Try.f88 Post) = g_ref01_ValidRect_e a0_X a0_Y a0_W a0_H (fun r0 => Post (.bool r0)) := by kernel_rfl
theorem exec_ref01_ValidRect (F : Nat) (Post : AVal UU → Prop) (a0_X : Int) (a0_Y : Int) (a0_W : Int) (a0_H : Int) : exec C_ref01_within Try.f88.ntmps M_ref01_ValidRect F 0 (bo Try.f88) (initSt [.agg [.int .i64 a0_X, .int .i64 a0_Y, .int .i64 a0_W, .int .i64 a0_H]]) (AEnds C_ref01_within false Try.f88 Post) = w_ref01_ValidRect F a0_X a0_Y a0_W a0_H (fun r0 => Post (.bool r0)) := by
  rw [entry_ref01_ValidRect]
  rfl
def m_ref01_ValidRect : Model UU
  | [.agg [.int .i64 a0_X, .int .i64 a0_Y, .int .i64 a0_W, .int .i64 a0_H]] => some ([], .bool (sp_ref01_ValidRect a0_X a0_Y a0_W a0_H))
  | _ => none
def C_ref01_ValidRect : Cfg UU := C_ref01_within.add 88 m_ref01_ValidRect
theorem s_ref01_ValidRect : SumOK C_ref01_ValidRect := by
  refine s_ref01_within.addD mixed (fn := Try.f88) (c := bo Try.f88) Try.func88 (by kernel_rfl) (by kernel_rfl) ?_
  intro xs cs r h hc
  unfold m_ref01_ValidRect at h
  split at h
  · rename_i a0_X a0_Y a0_W a0_H
    cases h
    obtain ⟨F, hF⟩ := ok_ref01_ValidRect a0_X a0_Y a0_W a0_H
    refine ⟨by kernel_rfl, M_ref01_ValidRect, F, false, ⟨?_⟩⟩
    rw [exec_ref01_ValidRect]
    refine hF _ ?_
    rfl
  · cases h
set_option maxRecDepth 100000 in
theorem entry_ref03_lineIn (F : Nat) (Post : AVal UU → Prop) (a0_X1 : Int) (a0_Y1 : Int) (a0_X2 : Int) (a0_Y2 : Int) : exec C_ref01_ValidRect Try.f57.ntmps M_ref03_lineIn F 0 (bo Try.f57) (initSt [.agg [.int .i64 a0_X1, .int .i64 a0_Y1, .int .i64 a0_X2, .int .i64 a0_Y2]]) (AEnds C_ref01_ValidRect false Try.f57 Post) = g_ref03_lineIn_e a0_X1 a0_Y1 a0_X2 a0_Y2 (fun r0 => Post (.bool r0)) := by kernel_rfl
theorem exec_ref03_lineIn (F : Nat) (Post : AVal UU → Prop) (a0_X1 : Int) (a0_Y1 : Int) (a0_X2 : Int) (a0_Y2 : Int) : exec C_ref01_ValidRect Try.f57.ntmps M_ref03_lineIn F 0 (bo Try.f57) (initSt [.agg [.int .i64 a0_X1, .int .i64 a0_Y1, .int .i64 a0_X2, .int .i64 a0_Y2]]) (AEnds C_ref01_ValidRect false Try.f57 Post) = w_ref03_lineIn F a0_X1 a0_Y1 a0_X2 a0_Y2 (fun r0 => Post (.bool r0)) := by
  rw [entry_ref03_lineIn]
  rfl
def m_ref03_lineIn : Model UU
  | [.agg [.int .i64 a0_X1, .int .i64 a0_Y1, .int .i64 a0_X2, .int .i64 a0_Y2]] => some ([], .bool (sp_ref03_lineIn a0_X1 a0_Y1 a0_X2 a0_Y2))
  | _ => none
def C_ref03_lineIn : Cfg UU := C_ref01_ValidRect.add 57 m_ref03_lineIn
theorem s_ref03_lineIn : SumOK C_ref03_lineIn := by
  refine s_ref01_ValidRect.addD mixed (fn := Try.f57) (c := bo Try.f57) Try.func57 (by kernel_rfl) (by kernel_rfl) ?_
  intro xs cs r h hc
  unfold m_ref03_lineIn at h
  split at h
  · rename_i a0_X1 a0_Y1 a0_X2 a0_Y2
    cases h
    obtain ⟨F, hF⟩ := ok_ref03_lineIn a0_X1 a0_Y1 a0_X2 a0_Y2
    refine ⟨by kernel_rfl, M_ref03_lineIn, F, false, ⟨?_⟩⟩
    rw [exec_ref03_lineIn]
    refine hF _ ?_
    rfl
  · cases h
end
end Go.Proofs.Ytohecfbnmmgimaa
