/- Texts of this proof, one behind another: program.FormatOps: the text of a program in a dialect. Conditions: none.; What pieces of code must make hold, in plain Lean; printed by gen.py. Conditions: none; de; The chapter's second example. Conditions: none.; What pieces of code must make hold, in plain Lean; printed by gen.py. Conditions: none; de; What pieces of code must make hold, in plain Lean; printed by gen.py. Conditions: none; de; Flat patterns: what the functions on one list of rectangles return, and one flange's frame; Arguments of ProgramFolds: a pattern and a number. Conditions: none.; What pieces of code must make hold, in plain Lean; printed by gen.py. Conditions: none; de; What pieces of code must make hold, in plain Lean; printed by gen.py. Conditions: none; de; Flat patterns: which are taken. Conditions: none.; What pieces of code must make hold, in plain Lean; printed by gen.py. Conditions: none; de; What pieces of code must make hold, in plain Lean; printed by gen.py. Conditions: none; de; Frames of flanges: that the program's and the document's are the same. Conditions: none.; Patterns and bends: which are taken; the frames of the faces; holders; equal lists of face; What pieces of code must make hold, in plain Lean; printed by gen.py. Conditions: none; de; The document's frames are the program's. Conditions: none.; What pieces of code must make hold, in plain Lean; printed by gen.py. Conditions: none; de; slices.Concat: the lists, one behind another. Conditions: none.. Conditions: none. -/
import Derived.Test.YteffpgliiilnjaaGreatDoorMF4
import Derived.Lib.ItoaLen
import Derived.Lib.ItoaNum
namespace Go.Proofs.YteffpgliiilnjaaGreatDoor
open Go.Vm Go.RowKit
set_option linter.unusedVariables false
noncomputable section
def wnum (b : ByteArray) (n : Int) : ByteArray := b ++ (ByteArray.mk #[32] ++ itoaB n)
def cleanO (o : Opn) : Bool := sp_zag o.Kind o.X o.Y o.W o.H o.N
def rangeO (o : Opn) : Bool := sp_zu o.Kind o.X o.Y o.W o.H o.N
def afterO (o : Opn) (x y : Int) : Int × Int := sp_zaf o.Kind o.X o.Y o.W o.H o.N x y
def badO (ks : List Int) (o : Opn) : Bool := ((!(hasK ks o.Kind)) || (!(cleanO o))) || (!(rangeO o))
def fmtF (ks : List Int) (wl : List (Int × ByteArray)) (wr : Opn → Int → Int → List Int) : List Opn → ByteArray → Int → Int → ByteArray × Int
  | [], b, _, _ => (b, 0)
  | o :: l, b, x, y => bif badO ks o then (ByteArray.mk #[], 16) else fmtF ks wl wr l ((wr o x y).foldl wnum (b ++ selW wl o.Kind) ++ ByteArray.mk #[10]) (afterO o x y).1 (afterO o x y).2
def i64r (n : Int) : Prop := -9223372036854775808 ≤ n ∧ n ≤ 9223372036854775807
theorem itoaB_size {n : Int} (h : i64r n) : (itoaB n).size ≤ 21 := by
  have := Lib.itoa_length_le n h.1 h.2
  unfold itoaB
  show (Lib.itoa n).toArray.size ≤ 21
  simpa using this
theorem sp_size (n : Int) : ((ByteArray.mk #[32]) ++ itoaB n).size = 1 + (itoaB n).size := by
  rw [ByteArray.size_append]
  rfl
theorem fo_inner (l : List Int) (hl4 : l.length ≤ 1000) (hr : ∀ n ∈ l, i64r n) (V : Nat → Int → ByteArray → Prop) (X : Int → ByteArray → Prop)
    (hs : ∀ n i b, V (n + 1) i b = cond (decide (i < (l.length : Int))) ((0 ≤ i ∧ i < l.length) ∧ (((-9223372036854775808 ≤ l.getD i.toNat default ∧ l.getD i.toNat default ≤ 9223372036854775807) ∧ ((((ByteArray.mk #[32]).size : Int) + (itoaB (l.getD i.toNat default)).size ≤ 9223372036854775807) ∧ (1 ≤ ((ByteArray.mk #[32]) ++ (itoaB (l.getD i.toNat default))).size ∧ b.size + ((ByteArray.mk #[32]) ++ (itoaB (l.getD i.toNat default))).size ≤ 140737488355328))) ∧ V n (w64 (i + 1)) (b ++ ((ByteArray.mk #[32]) ++ (itoaB (l.getD i.toNat default)))))) (X i b)) :
    ∀ (n i : Nat) (b : ByteArray), i ≤ l.length → l.length < n + i → b.size ≤ 2000000 + 100 * i → X l.length ((l.drop i).foldl wnum b) → V n i b := by
  intro n
  induction n with
  | zero => intro i b h1 h2; omega
  | succ n ih =>
    intro i b h1 h2 hb hX
    rw [hs]
    by_cases h : i < l.length
    · rw [dec_t (show (i : Int) < l.length by omega), cond_true, Int.toNat_natCast, w64_succ h (by omega)]
      rw [drop_getD l i h, List.foldl_cons] at hX
      have he : i64r (l.getD i default) := hr _ (by rw [List.getD_eq_getElem?_getD, List.getElem?_eq_getElem h]; exact List.getElem_mem h)
      generalize l.getD i default = e at hX he ⊢
      have hsz := itoaB_size he
      have hsp := sp_size e
      have h32 : (ByteArray.mk #[32]).size = 1 := rfl
      refine ⟨⟨by omega, by omega⟩, ⟨he, by omega, by omega, by omega⟩, ?_⟩
      refine ih (i + 1) _ (by omega) (by omega) ?_ hX
      rw [ByteArray.size_append]
      omega
    · have e : i = l.length := by omega
      subst e
      rw [dec_f (by omega), cond_false]
      rw [List.drop_length] at hX
      exact hX
theorem wnums_size : ∀ (l : List Int) (b : ByteArray), (∀ n ∈ l, i64r n) → (l.foldl wnum b).size ≤ b.size + 22 * l.length
  | [], b, _ => by simp
  | n :: l, b, h => by
    rw [List.foldl_cons]
    have h1 := wnums_size l (wnum b n) (fun m hm => h m (by simp [hm]))
    have h2 := itoaB_size (h n (by simp))
    have h3 : (wnum b n).size = b.size + (1 + (itoaB n).size) := by
      unfold wnum
      rw [ByteArray.size_append, sp_size]
    rw [List.length_cons]
    omega
theorem fo_outer (ks : List Int) (wl : List (Int × ByteArray)) (wr : Opn → Int → Int → List Int) (hw : ∀ k, hasK ks k = true → 1 ≤ (selW wl k).size ∧ (selW wl k).size ≤ 10) (hn : ∀ o x y, rangeO o = true → (wr o x y).length ≤ 4 ∧ ∀ n ∈ wr o x y, i64r n)
    (l : List Opn) (hl : l.length ≤ 4000) (Q : ByteArray → Int → Prop) (X0 X1 : Int → ByteArray → Int → Int → Prop) (W : Nat → Int → ByteArray → Int → Int → Prop) (I : Nat → Int → Opn → List Int → ByteArray → Int → Int → Prop)
    (hs : ∀ n i b x y, W (n + 1) i b x y = cond (decide (i < (l.length : Int))) ((0 ≤ i ∧ i < l.length) ∧ cond (badO ks (l.getD i.toNat default)) (X0 i b x y) ((1 ≤ (selW wl (l.getD i.toNat default).Kind).size ∧ b.size + (selW wl (l.getD i.toNat default).Kind).size ≤ 140737488355328) ∧ I n i (l.getD i.toNat default) (wr (l.getD i.toNat default) x y) (b ++ selW wl (l.getD i.toNat default).Kind) x y)) (X1 i b x y))
    (hI : ∀ n i o nums b x y, nums.length ≤ 4 → (∀ n ∈ nums, i64r n) → b.size ≤ 1000000 → W n (w64 (i + 1)) (nums.foldl wnum b ++ ByteArray.mk #[10]) (afterO o x y).1 (afterO o x y).2 → I n i o nums b x y)
    (hX0 : ∀ i b x y, Q (ByteArray.mk #[]) 16 → X0 i b x y) (hX1 : ∀ i b x y, Q b 0 → X1 i b x y) :
    ∀ (n i : Nat) (b : ByteArray) (x y : Int), i ≤ l.length → l.length < n + i → b.size ≤ 200 * i → Q (fmtF ks wl wr (l.drop i) b x y).1 (fmtF ks wl wr (l.drop i) b x y).2 → W n i b x y := by
  intro n
  induction n with
  | zero => intro i b x y h1 h2; omega
  | succ n ih =>
    intro i b x y h1 h2 hb hQ
    rw [hs]
    by_cases h : i < l.length
    · rw [dec_t (show (i : Int) < l.length by omega), cond_true, Int.toNat_natCast]
      rw [drop_getD l i h] at hQ
      generalize l.getD i default = o at hQ ⊢
      refine ⟨⟨by omega, by omega⟩, ?_⟩
      unfold fmtF at hQ
      cases hbad : badO ks o with
      | true =>
        rw [hbad] at hQ
        exact hX0 _ _ _ _ hQ
      | false =>
        rw [hbad, cond_false] at hQ
        rw [cond_false]
        unfold badO at hbad
        simp only [Bool.or_eq_false_iff, Bool.not_eq_false'] at hbad
        obtain ⟨⟨k1, k2⟩, k3⟩ := hbad
        obtain ⟨q1, q2⟩ := hw _ k1
        obtain ⟨r1, r2⟩ := hn o x y k3
        have hbs : (b ++ selW wl o.Kind).size = b.size + (selW wl o.Kind).size := ByteArray.size_append ..
        refine ⟨⟨q1, by omega⟩, hI _ _ _ _ _ _ _ r1 r2 (by omega) ?_⟩
        rw [w64_succ h (by omega)]
        refine ih (i + 1) _ _ _ (by omega) (by omega) ?_ hQ
        have h10 : (ByteArray.mk #[10]).size = 1 := rfl
        have := wnums_size (wr o x y) (b ++ selW wl o.Kind) r2
        rw [ByteArray.size_append]
        omega
    · have e : i = l.length := by omega
      subst e
      rw [dec_f (by omega), cond_false]
      rw [List.drop_length] at hQ
      exact hX1 _ _ _ _ hQ
theorem inR_r {n : Int} (h : inR n = true) : i64r n := by
  unfold inR at h
  simp only [Bool.not_eq_true', Bool.or_eq_false_iff, decide_eq_false_iff_not] at h
  unfold i64r
  omega
theorem rangeO_r {o : Opn} (h : rangeO o = true) : i64r o.X ∧ i64r o.Y ∧ i64r o.W ∧ i64r o.H ∧ i64r o.N := by
  unfold rangeO sp_zu at h
  simp only [List.all_cons, List.all_nil, Bool.and_true, Bool.and_eq_true] at h
  exact ⟨inR_r h.1, inR_r h.2.1, inR_r h.2.2.1, inR_r h.2.2.2.1, inR_r h.2.2.2.2⟩
theorem w64_r (n : Int) : i64r (w64 n) := by
  have e : w64 n = (n + 9223372036854775808) % 18446744073709551616 - 9223372036854775808 := by
    simp only [w64, IntKind.wrap, IntKind.bits, IntKind.signed]
    simp
    split <;> omega
  rw [e]
  unfold i64r
  omega
def wr2 (o : Opn) (x y : Int) : List Int := sp_zx o.Kind o.X o.Y o.W o.H o.N x y
theorem wr2_ok (o : Opn) (x y : Int) (h : rangeO o = true) : (wr2 o x y).length ≤ 4 ∧ ∀ n ∈ wr2 o x y, i64r n := by
  obtain ⟨r1, r2, r3, r4, r5⟩ := rangeO_r h
  unfold wr2 sp_zx
  cases o.Kind == 3
  · refine ⟨by simp, fun n hn => ?_⟩
    simp only [cond_false, List.mem_cons, List.not_mem_nil, or_false] at hn
    rcases hn with rfl | rfl <;> exact w64_r _
  · refine ⟨by simp, fun n hn => ?_⟩
    simp only [cond_true, List.cons_append, List.nil_append, List.mem_cons, List.not_mem_nil, or_false] at hn
    rcases hn with rfl | rfl | rfl | rfl
    · exact w64_r _
    · exact w64_r _
    · exact r3
    · exact r4
theorem pre_placed (k x y w h n a b : Int) : pre_zx k x y w h n a b := by
  unfold pre_zx
  cases k == 3
  · trivial
  · show (2 + 2) * 8 ≤ 140737488355328
    decide
theorem hasK_cases {ks : List Int} {k : Int} (h : hasK ks k = true) : k ∈ ks := by
  induction ks with
  | nil => cases h
  | cons a l ih =>
    unfold hasK at h
    cases hb : k == a with
    | true => exact List.mem_cons.2 (.inl (by simpa using hb))
    | false =>
      rw [hb] at h
      exact List.mem_cons.2 (.inr (ih h))
theorem wl2_ok (k : Int) (h : hasK [1, 2, 4, 3] k = true) : 1 ≤ (selW wl2 k).size ∧ (selW wl2 k).size ≤ 10 := by
  have := hasK_cases h
  simp only [List.mem_cons, List.not_mem_nil, or_false] at this
  rcases this with rfl | rfl | rfl | rfl <;> decide
def pre_fo2 (ops : List Opn) : Prop := True
def sp_fo2 (ops : List Opn) : ByteArray × Int := cond (decide (4000 < (ops.length : Int))) (ByteArray.mk #[], 4) (fmtF [1, 2, 4, 3] wl2 wr2 ops ByteArray.empty 0 0)
theorem ok_fo2 (ops : List Opn) (h : pre_fo2 ops) : ∃ F, ∀ Q : ByteArray → Int → Prop, Q ((sp_fo2 ops).1) ((sp_fo2 ops).2) → w_fo2 F ops Q := by
  refine ⟨4001, fun Q hQ => ?_⟩
  unfold sp_fo2 at hQ
  unfold w_fo2 g_fo2_e
  by_cases hl : 4000 < (ops.length : Int)
  · rw [dec_t hl] at hQ ⊢
    exact hQ
  · rw [dec_f hl] at hQ ⊢
    simp only [cond_false] at hQ ⊢
    show w_fo2_0 4001 (fun t4 t5 t28 t29 t30 o8 c9_0 c9_1 => Q t4 t5) (fun t4 t5 t28 t29 t30 o8 c9_0 c9_1 => Q o8 0) 4001 (ByteArray.mk #[]) 0 ops (ops.length : Int) ((0 : Nat) : Int) ByteArray.empty 0 0
    refine fo_outer [1, 2, 4, 3] wl2 wr2 wl2_ok wr2_ok ops (by omega) Q (fun i b x y => Q (ByteArray.mk #[]) 16) (fun i b x y => Q b 0) (fun n i b x y => w_fo2_0 4001 (fun t4 t5 t28 t29 t30 o8 c9_0 c9_1 => Q t4 t5) (fun t4 t5 t28 t29 t30 o8 c9_0 c9_1 => Q o8 0) n (ByteArray.mk #[]) 0 ops (ops.length : Int) i b x y)
      (fun n i o nums b x y => pre_zx o.Kind o.X o.Y o.W o.H o.N x y ∧ n_fo2_1 4001 (w_fo2_0 4001 (fun t4 t5 t28 t29 t30 o8 c9_0 c9_1 => Q t4 t5) (fun t4 t5 t28 t29 t30 o8 c9_0 c9_1 => Q o8 0) n) (fun t4 t5 t28 t29 t30 o8 c9_0 c9_1 => Q t4 t5) (fun t4 t5 t28 t29 t30 o8 c9_0 c9_1 => Q o8 0) (ByteArray.mk #[]) 0 ops (ops.length : Int) i nums (nums.length : Int) 0 b x y o.Kind o.X o.Y o.W o.H o.N)
      (fun n i b x y => rfl) (fun n i o nums b x y h4 hr hb hW => ?_) (fun i b x y q => q) (fun i b x y q => q) 4001 0 ByteArray.empty 0 0 (by omega) (by omega) (by decide) ?_
    · refine ⟨pre_placed _ _ _ _ _ _ _ _, ?_⟩
      refine fo_inner nums (by omega) hr (fun n' j b' => w_fo2_1 4001 _ n' (ByteArray.mk #[]) 0 ops (ops.length : Int) i nums (nums.length : Int) j b' x y o.Kind o.X o.Y o.W o.H o.N) (fun j b' => (1 ≤ (ByteArray.mk #[10]).size ∧ b'.size + (ByteArray.mk #[10]).size ≤ 140737488355328) ∧ w_fo2_0 4001 (fun t4 t5 t28 t29 t30 o8 c9_0 c9_1 => Q t4 t5) (fun t4 t5 t28 t29 t30 o8 c9_0 c9_1 => Q o8 0) n (ByteArray.mk #[]) 0 ops (ops.length : Int) (w64 (i + 1)) (b' ++ ByteArray.mk #[10]) (afterO o x y).1 (afterO o x y).2) (fun n' j b' => rfl) 4001 0 b (by omega) (by omega) (by omega) ?_
      have h10 : (ByteArray.mk #[10]).size = 1 := rfl
      have := wnums_size nums b hr
      exact ⟨⟨by omega, by rw [List.drop_zero]; omega⟩, hW⟩
    · rw [List.drop_zero]
      exact hQ
end
end Go.Proofs.YteffpgliiilnjaaGreatDoor
namespace Go.Proofs.YteffpgliiilnjaaGreatDoor
open Go.Vm Go.RowKit
set_option linter.unusedVariables false
noncomputable section
def M_zbb : Nat → Nat → Nat → Canon UU := fun o b r => ⟨[], [], [], [], []⟩
def g_zbb_e  (Q : Bool → Prop) : Prop := (let r0 := (sp_fo2 ([(Opn.mk 1 105 105 0 0 0), (Opn.mk 1 100 100 0 0 0), (Opn.mk 2 110 100 0 0 0)])); ((pre_fo2 ([(Opn.mk 1 105 105 0 0 0), (Opn.mk 1 100 100 0 0 0), (Opn.mk 2 110 100 0 0 0)])) ∧ (let r1 := (sp_zw (ByteArray.mk #[115]) (ByteArray.mk #[115, 116, 101, 101, 108]) 1 0 9 9 ([]) ([]) ([(Opn.mk 2 4 0 0 0 0)])); ((pre_zw (ByteArray.mk #[115]) (ByteArray.mk #[115, 116, 101, 101, 108]) 1 0 9 9 ([]) ([]) ([(Opn.mk 2 4 0 0 0 0)])) ∧ ((((((r0.2 == 0) && (r0.1 == (ByteArray.mk #[109, 32, 49, 48, 53, 32, 49, 48, 53, 10, 109, 32, 45, 53, 32, 45, 53, 10, 108, 32, 49, 48, 32, 48, 10]))) && (r1.2.2 == 0)) && ((r1.1.length : Int) == 1)) = true → 0 ≤ (0 : Int) ∧ (0 : Int) < r1.1.length) ∧ Q (((((r0.2 == 0) && (r0.1 == (ByteArray.mk #[109, 32, 49, 48, 53, 32, 49, 48, 53, 10, 109, 32, 45, 53, 32, 45, 53, 10, 108, 32, 49, 48, 32, 48, 10]))) && (r1.2.2 == 0)) && ((r1.1.length : Int) == 1)) && ((((r1.1.getD 0 default).X1) == 0) && ((((r1.1.getD 0 default).Y1) == 0) && ((((r1.1.getD 0 default).X2) == 4) && ((((r1.1.getD 0 default).Y2) == 0) && true))))))))))
def w_zbb (F : Nat)  (Q : Bool → Prop) : Prop := g_zbb_e  Q
end
end Go.Proofs.YteffpgliiilnjaaGreatDoor
namespace Go.Proofs.YteffpgliiilnjaaGreatDoor
open Go.Vm Go.RowKit
set_option linter.unusedVariables false
noncomputable section
def sp_zbb : Bool := true
theorem kn_run : sp_zw (ByteArray.mk #[115]) (ByteArray.mk #[115, 116, 101, 101, 108]) 1 0 9 9 ([]) ([]) ([(Opn.mk 2 4 0 0 0 0)]) = ([Seg.mk 0 0 4 0], [], 0) := by
  kernel_rfl
theorem kn_fo : sp_fo2 ([(Opn.mk 1 105 105 0 0 0), (Opn.mk 1 100 100 0 0 0), (Opn.mk 2 110 100 0 0 0)]) = (ByteArray.mk #[109, 32, 49, 48, 53, 32, 49, 48, 53, 10, 109, 32, 45, 53, 32, 45, 53, 10, 108, 32, 49, 48, 32, 48, 10], 0) := by
  kernel_rfl
theorem ok_zbb  : ∃ F, ∀ Q : Bool → Prop, Q sp_zbb → w_zbb F  Q := by
  refine ⟨0, fun Q hQ => ?_⟩
  unfold w_zbb g_zbb_e
  dsimp only
  rw [kn_run, kn_fo]
  exact ⟨trivial, trivial, fun _ => by decide, hQ⟩
end
end Go.Proofs.YteffpgliiilnjaaGreatDoor
namespace Go.Proofs.YteffpgliiilnjaaGreatDoor
open Go.Vm Go.RowKit
set_option linter.unusedVariables false
noncomputable section
def M_zas : Nat → Nat → Nat → Canon UU := fun o b r => ⟨[], [], [], [], []⟩
def g_zas_e (a0 a1 a2 : Int) (Q : Bool → Prop) : Prop := Q ((decide (a1 ≤ a0)) && (decide (a0 ≤ a2)))
def w_zas (F : Nat) (a0 a1 a2 : Int) (Q : Bool → Prop) : Prop := g_zas_e a0 a1 a2 Q
def sp_zas (a0 a1 a2 : Int) : Bool := ((decide (a1 ≤ a0)) && (decide (a0 ≤ a2)))
theorem ok_zas (a0 a1 a2 : Int) : ∃ F, ∀ Q : Bool → Prop, Q (sp_zas a0 a1 a2) → w_zas F a0 a1 a2 Q := by
  refine ⟨0, fun Q h => ?_⟩
  unfold w_zas g_zas_e
  unfold sp_zas at h
  exact h
def M_zp : Nat → Nat → Nat → Canon UU := fun o b r => ⟨[], [], [], [], []⟩
def g_zp_e (a0_X a0_Y a0_W a0_H : Int) (Q : Bool → Prop) : Prop := cond ((((!(sp_zas a0_X (-1048576) 1048576)) || (!(sp_zas a0_Y (-1048576) 1048576))) || (!(sp_zas a0_W 1 2097152))) || (!(sp_zas a0_H 1 2097152))) (Q false) (Q ((decide ((w64 (a0_X + a0_W)) ≤ 1048576)) && (decide ((w64 (a0_Y + a0_H)) ≤ 1048576))))
def w_zp (F : Nat) (a0_X a0_Y a0_W a0_H : Int) (Q : Bool → Prop) : Prop := g_zp_e a0_X a0_Y a0_W a0_H Q
def sp_zp (a0_X a0_Y a0_W a0_H : Int) : Bool := cond ((((!(sp_zas a0_X (-1048576) 1048576)) || (!(sp_zas a0_Y (-1048576) 1048576))) || (!(sp_zas a0_W 1 2097152))) || (!(sp_zas a0_H 1 2097152))) (false) (((decide ((w64 (a0_X + a0_W)) ≤ 1048576)) && (decide ((w64 (a0_Y + a0_H)) ≤ 1048576))))
theorem ok_zp (a0_X a0_Y a0_W a0_H : Int) : ∃ F, ∀ Q : Bool → Prop, Q (sp_zp a0_X a0_Y a0_W a0_H) → w_zp F a0_X a0_Y a0_W a0_H Q := by
  refine ⟨0, fun Q h => ?_⟩
  unfold w_zp g_zp_e
  unfold sp_zp at h
  cases hb0 : (((((!(sp_zas a0_X (-1048576) 1048576)) || (!(sp_zas a0_Y (-1048576) 1048576))) || (!(sp_zas a0_W 1 2097152))) || (!(sp_zas a0_H 1 2097152))))
  · try simp only [hb0, cond_false] at h ⊢
    exact h
  · try simp only [hb0, cond_true] at h ⊢
    exact h
def M_zar : Nat → Nat → Nat → Canon UU := fun o b r => ⟨[], [], [], [], []⟩
def g_zar_e (a0 a1 a2 : Int) (Q : Bool → Prop) : Prop := Q ((decide (a1 ≤ a0)) && (decide (a0 ≤ a2)))
def w_zar (F : Nat) (a0 a1 a2 : Int) (Q : Bool → Prop) : Prop := g_zar_e a0 a1 a2 Q
def sp_zar (a0 a1 a2 : Int) : Bool := ((decide (a1 ≤ a0)) && (decide (a0 ≤ a2)))
theorem ok_zar (a0 a1 a2 : Int) : ∃ F, ∀ Q : Bool → Prop, Q (sp_zar a0 a1 a2) → w_zar F a0 a1 a2 Q := by
  refine ⟨0, fun Q h => ?_⟩
  unfold w_zar g_zar_e
  unfold sp_zar at h
  exact h
def M_zal : Nat → Nat → Nat → Canon UU := fun o b r => ⟨[], [], [], [], []⟩
def g_zal_e (qf qe qh qg : Int) (Q : Bool → Prop) : Prop := Q ((((sp_zar qf (-1048576) 1048576) && (sp_zar qe (-1048576) 1048576)) && (sp_zar qh (-1048576) 1048576)) && (sp_zar qg (-1048576) 1048576))
def w_zal (F : Nat) (qf qe qh qg : Int) (Q : Bool → Prop) : Prop := g_zal_e qf qe qh qg Q
def sp_zal (qf qe qh qg : Int) : Bool := ((((sp_zar qf (-1048576) 1048576) && (sp_zar qe (-1048576) 1048576)) && (sp_zar qh (-1048576) 1048576)) && (sp_zar qg (-1048576) 1048576))
theorem ok_zal (qf qe qh qg : Int) : ∃ F, ∀ Q : Bool → Prop, Q (sp_zal qf qe qh qg) → w_zal F qf qe qh qg Q := by
  refine ⟨0, fun Q h => ?_⟩
  unfold w_zal g_zal_e
  unfold sp_zal at h
  exact h
def M_zam : Nat → Nat → Nat → Canon UU := fun o b r => ⟨[], [], [], [], []⟩
def g_zam_e (a0_X a0_Y a0_Z a1_X a1_Y a1_Z : Int) (Q : Int → Int → Int → Prop) : Prop := Q (w64 (a0_X + a1_X)) (w64 (a0_Y + a1_Y)) (w64 (a0_Z + a1_Z))
def w_zam (F : Nat) (a0_X a0_Y a0_Z a1_X a1_Y a1_Z : Int) (Q : Int → Int → Int → Prop) : Prop := g_zam_e a0_X a0_Y a0_Z a1_X a1_Y a1_Z Q
def sp_zam (a0_X a0_Y a0_Z a1_X a1_Y a1_Z : Int) : Int × Int × Int := (w64 (a0_X + a1_X), w64 (a0_Y + a1_Y), w64 (a0_Z + a1_Z))
theorem ok_zam (a0_X a0_Y a0_Z a1_X a1_Y a1_Z : Int) : ∃ F, ∀ Q : Int → Int → Int → Prop, Q ((sp_zam a0_X a0_Y a0_Z a1_X a1_Y a1_Z).1) ((sp_zam a0_X a0_Y a0_Z a1_X a1_Y a1_Z).2.1) ((sp_zam a0_X a0_Y a0_Z a1_X a1_Y a1_Z).2.2) → w_zam F a0_X a0_Y a0_Z a1_X a1_Y a1_Z Q := by
  refine ⟨0, fun Q h => ?_⟩
  unfold w_zam g_zam_e
  unfold sp_zam at h
  exact h
def M_zad : Nat → Nat → Nat → Canon UU := fun o b r => ⟨[], [], [], [], []⟩
def g_zad_e (a0_X a0_Y a0_Z a1 : Int) (Q : Int → Int → Int → Prop) : Prop := Q (w64 (a1 * a0_X)) (w64 (a1 * a0_Y)) (w64 (a1 * a0_Z))
def w_zad (F : Nat) (a0_X a0_Y a0_Z a1 : Int) (Q : Int → Int → Int → Prop) : Prop := g_zad_e a0_X a0_Y a0_Z a1 Q
def sp_zad (a0_X a0_Y a0_Z a1 : Int) : Int × Int × Int := (w64 (a1 * a0_X), w64 (a1 * a0_Y), w64 (a1 * a0_Z))
theorem ok_zad (a0_X a0_Y a0_Z a1 : Int) : ∃ F, ∀ Q : Int → Int → Int → Prop, Q ((sp_zad a0_X a0_Y a0_Z a1).1) ((sp_zad a0_X a0_Y a0_Z a1).2.1) ((sp_zad a0_X a0_Y a0_Z a1).2.2) → w_zad F a0_X a0_Y a0_Z a1 Q := by
  refine ⟨0, fun Q h => ?_⟩
  unfold w_zad g_zad_e
  unfold sp_zad at h
  exact h
def M_zd : Nat → Nat → Nat → Canon UU := fun o b r => ⟨[], [], [], [], []⟩
def g_zd_e (y0 y1 y2 y3 y4 y5 y6 y7 y8 y9 y10 y11 y12 y13 y14 y15 y16 y17 a1_X a1_Y : Int) (Q : Int → Int → Prop) : Prop := Q (w64 ((w64 ((w64 (a1_X - y11)) * y13)) + (w64 ((w64 (a1_Y - y12)) * y14)))) (w64 ((w64 ((w64 ((w64 (a1_X - y11)) * y15)) + (w64 ((w64 (a1_Y - y12)) * y16)))) + y17))
def w_zd (F : Nat) (y0 y1 y2 y3 y4 y5 y6 y7 y8 y9 y10 y11 y12 y13 y14 y15 y16 y17 a1_X a1_Y : Int) (Q : Int → Int → Prop) : Prop := g_zd_e y0 y1 y2 y3 y4 y5 y6 y7 y8 y9 y10 y11 y12 y13 y14 y15 y16 y17 a1_X a1_Y Q
def sp_zd (y0 y1 y2 y3 y4 y5 y6 y7 y8 y9 y10 y11 y12 y13 y14 y15 y16 y17 a1_X a1_Y : Int) : Int × Int := (w64 ((w64 ((w64 (a1_X - y11)) * y13)) + (w64 ((w64 (a1_Y - y12)) * y14))), w64 ((w64 ((w64 ((w64 (a1_X - y11)) * y15)) + (w64 ((w64 (a1_Y - y12)) * y16)))) + y17))
theorem ok_zd (y0 y1 y2 y3 y4 y5 y6 y7 y8 y9 y10 y11 y12 y13 y14 y15 y16 y17 a1_X a1_Y : Int) : ∃ F, ∀ Q : Int → Int → Prop, Q ((sp_zd y0 y1 y2 y3 y4 y5 y6 y7 y8 y9 y10 y11 y12 y13 y14 y15 y16 y17 a1_X a1_Y).1) ((sp_zd y0 y1 y2 y3 y4 y5 y6 y7 y8 y9 y10 y11 y12 y13 y14 y15 y16 y17 a1_X a1_Y).2) → w_zd F y0 y1 y2 y3 y4 y5 y6 y7 y8 y9 y10 y11 y12 y13 y14 y15 y16 y17 a1_X a1_Y Q := by
  refine ⟨0, fun Q h => ?_⟩
  unfold w_zd g_zd_e
  unfold sp_zd at h
  exact h
def M_zb : Nat → Nat → Nat → Canon UU := fun o b r => ⟨[], [], [], [], []⟩
def g_zb_e (y0 y1 y2 y3 y4 y5 y6 y7 y8 y9 y10 y11 y12 y13 y14 y15 y16 y17 a1_X a1_Y : Int) (Q : Int → Int → Int → Prop) : Prop := Q ((sp_zam ((sp_zad y3 y4 y5 (w64 ((w64 (a1_X * y13)) + (w64 (a1_Y * y14))))).1) ((sp_zad y3 y4 y5 (w64 ((w64 (a1_X * y13)) + (w64 (a1_Y * y14))))).2.1) ((sp_zad y3 y4 y5 (w64 ((w64 (a1_X * y13)) + (w64 (a1_Y * y14))))).2.2) ((sp_zad y6 y7 y8 (w64 ((w64 (a1_X * y15)) + (w64 (a1_Y * y16))))).1) ((sp_zad y6 y7 y8 (w64 ((w64 (a1_X * y15)) + (w64 (a1_Y * y16))))).2.1) ((sp_zad y6 y7 y8 (w64 ((w64 (a1_X * y15)) + (w64 (a1_Y * y16))))).2.2)).1) ((sp_zam ((sp_zad y3 y4 y5 (w64 ((w64 (a1_X * y13)) + (w64 (a1_Y * y14))))).1) ((sp_zad y3 y4 y5 (w64 ((w64 (a1_X * y13)) + (w64 (a1_Y * y14))))).2.1) ((sp_zad y3 y4 y5 (w64 ((w64 (a1_X * y13)) + (w64 (a1_Y * y14))))).2.2) ((sp_zad y6 y7 y8 (w64 ((w64 (a1_X * y15)) + (w64 (a1_Y * y16))))).1) ((sp_zad y6 y7 y8 (w64 ((w64 (a1_X * y15)) + (w64 (a1_Y * y16))))).2.1) ((sp_zad y6 y7 y8 (w64 ((w64 (a1_X * y15)) + (w64 (a1_Y * y16))))).2.2)).2.1) ((sp_zam ((sp_zad y3 y4 y5 (w64 ((w64 (a1_X * y13)) + (w64 (a1_Y * y14))))).1) ((sp_zad y3 y4 y5 (w64 ((w64 (a1_X * y13)) + (w64 (a1_Y * y14))))).2.1) ((sp_zad y3 y4 y5 (w64 ((w64 (a1_X * y13)) + (w64 (a1_Y * y14))))).2.2) ((sp_zad y6 y7 y8 (w64 ((w64 (a1_X * y15)) + (w64 (a1_Y * y16))))).1) ((sp_zad y6 y7 y8 (w64 ((w64 (a1_X * y15)) + (w64 (a1_Y * y16))))).2.1) ((sp_zad y6 y7 y8 (w64 ((w64 (a1_X * y15)) + (w64 (a1_Y * y16))))).2.2)).2.2)
def w_zb (F : Nat) (y0 y1 y2 y3 y4 y5 y6 y7 y8 y9 y10 y11 y12 y13 y14 y15 y16 y17 a1_X a1_Y : Int) (Q : Int → Int → Int → Prop) : Prop := g_zb_e y0 y1 y2 y3 y4 y5 y6 y7 y8 y9 y10 y11 y12 y13 y14 y15 y16 y17 a1_X a1_Y Q
def sp_zb (y0 y1 y2 y3 y4 y5 y6 y7 y8 y9 y10 y11 y12 y13 y14 y15 y16 y17 a1_X a1_Y : Int) : Int × Int × Int := ((sp_zam ((sp_zad y3 y4 y5 (w64 ((w64 (a1_X * y13)) + (w64 (a1_Y * y14))))).1) ((sp_zad y3 y4 y5 (w64 ((w64 (a1_X * y13)) + (w64 (a1_Y * y14))))).2.1) ((sp_zad y3 y4 y5 (w64 ((w64 (a1_X * y13)) + (w64 (a1_Y * y14))))).2.2) ((sp_zad y6 y7 y8 (w64 ((w64 (a1_X * y15)) + (w64 (a1_Y * y16))))).1) ((sp_zad y6 y7 y8 (w64 ((w64 (a1_X * y15)) + (w64 (a1_Y * y16))))).2.1) ((sp_zad y6 y7 y8 (w64 ((w64 (a1_X * y15)) + (w64 (a1_Y * y16))))).2.2)).1, (sp_zam ((sp_zad y3 y4 y5 (w64 ((w64 (a1_X * y13)) + (w64 (a1_Y * y14))))).1) ((sp_zad y3 y4 y5 (w64 ((w64 (a1_X * y13)) + (w64 (a1_Y * y14))))).2.1) ((sp_zad y3 y4 y5 (w64 ((w64 (a1_X * y13)) + (w64 (a1_Y * y14))))).2.2) ((sp_zad y6 y7 y8 (w64 ((w64 (a1_X * y15)) + (w64 (a1_Y * y16))))).1) ((sp_zad y6 y7 y8 (w64 ((w64 (a1_X * y15)) + (w64 (a1_Y * y16))))).2.1) ((sp_zad y6 y7 y8 (w64 ((w64 (a1_X * y15)) + (w64 (a1_Y * y16))))).2.2)).2.1, (sp_zam ((sp_zad y3 y4 y5 (w64 ((w64 (a1_X * y13)) + (w64 (a1_Y * y14))))).1) ((sp_zad y3 y4 y5 (w64 ((w64 (a1_X * y13)) + (w64 (a1_Y * y14))))).2.1) ((sp_zad y3 y4 y5 (w64 ((w64 (a1_X * y13)) + (w64 (a1_Y * y14))))).2.2) ((sp_zad y6 y7 y8 (w64 ((w64 (a1_X * y15)) + (w64 (a1_Y * y16))))).1) ((sp_zad y6 y7 y8 (w64 ((w64 (a1_X * y15)) + (w64 (a1_Y * y16))))).2.1) ((sp_zad y6 y7 y8 (w64 ((w64 (a1_X * y15)) + (w64 (a1_Y * y16))))).2.2)).2.2)
theorem ok_zb (y0 y1 y2 y3 y4 y5 y6 y7 y8 y9 y10 y11 y12 y13 y14 y15 y16 y17 a1_X a1_Y : Int) : ∃ F, ∀ Q : Int → Int → Int → Prop, Q ((sp_zb y0 y1 y2 y3 y4 y5 y6 y7 y8 y9 y10 y11 y12 y13 y14 y15 y16 y17 a1_X a1_Y).1) ((sp_zb y0 y1 y2 y3 y4 y5 y6 y7 y8 y9 y10 y11 y12 y13 y14 y15 y16 y17 a1_X a1_Y).2.1) ((sp_zb y0 y1 y2 y3 y4 y5 y6 y7 y8 y9 y10 y11 y12 y13 y14 y15 y16 y17 a1_X a1_Y).2.2) → w_zb F y0 y1 y2 y3 y4 y5 y6 y7 y8 y9 y10 y11 y12 y13 y14 y15 y16 y17 a1_X a1_Y Q := by
  refine ⟨0, fun Q h => ?_⟩
  unfold w_zb g_zb_e
  unfold sp_zb at h
  exact h
def M_zc : Nat → Nat → Nat → Canon UU := fun o b r => ⟨[], [], [], [], []⟩
def g_zc_e (y0 y1 y2 y3 y4 y5 y6 y7 y8 y9 y10 y11 y12 y13 y14 y15 y16 y17 a1 a2 : Int) (Q : Int → Int → Int → Prop) : Prop := Q ((sp_zam y0 y1 y2 ((sp_zam ((sp_zad y3 y4 y5 a1).1) ((sp_zad y3 y4 y5 a1).2.1) ((sp_zad y3 y4 y5 a1).2.2) ((sp_zad y6 y7 y8 a2).1) ((sp_zad y6 y7 y8 a2).2.1) ((sp_zad y6 y7 y8 a2).2.2)).1) ((sp_zam ((sp_zad y3 y4 y5 a1).1) ((sp_zad y3 y4 y5 a1).2.1) ((sp_zad y3 y4 y5 a1).2.2) ((sp_zad y6 y7 y8 a2).1) ((sp_zad y6 y7 y8 a2).2.1) ((sp_zad y6 y7 y8 a2).2.2)).2.1) ((sp_zam ((sp_zad y3 y4 y5 a1).1) ((sp_zad y3 y4 y5 a1).2.1) ((sp_zad y3 y4 y5 a1).2.2) ((sp_zad y6 y7 y8 a2).1) ((sp_zad y6 y7 y8 a2).2.1) ((sp_zad y6 y7 y8 a2).2.2)).2.2)).1) ((sp_zam y0 y1 y2 ((sp_zam ((sp_zad y3 y4 y5 a1).1) ((sp_zad y3 y4 y5 a1).2.1) ((sp_zad y3 y4 y5 a1).2.2) ((sp_zad y6 y7 y8 a2).1) ((sp_zad y6 y7 y8 a2).2.1) ((sp_zad y6 y7 y8 a2).2.2)).1) ((sp_zam ((sp_zad y3 y4 y5 a1).1) ((sp_zad y3 y4 y5 a1).2.1) ((sp_zad y3 y4 y5 a1).2.2) ((sp_zad y6 y7 y8 a2).1) ((sp_zad y6 y7 y8 a2).2.1) ((sp_zad y6 y7 y8 a2).2.2)).2.1) ((sp_zam ((sp_zad y3 y4 y5 a1).1) ((sp_zad y3 y4 y5 a1).2.1) ((sp_zad y3 y4 y5 a1).2.2) ((sp_zad y6 y7 y8 a2).1) ((sp_zad y6 y7 y8 a2).2.1) ((sp_zad y6 y7 y8 a2).2.2)).2.2)).2.1) ((sp_zam y0 y1 y2 ((sp_zam ((sp_zad y3 y4 y5 a1).1) ((sp_zad y3 y4 y5 a1).2.1) ((sp_zad y3 y4 y5 a1).2.2) ((sp_zad y6 y7 y8 a2).1) ((sp_zad y6 y7 y8 a2).2.1) ((sp_zad y6 y7 y8 a2).2.2)).1) ((sp_zam ((sp_zad y3 y4 y5 a1).1) ((sp_zad y3 y4 y5 a1).2.1) ((sp_zad y3 y4 y5 a1).2.2) ((sp_zad y6 y7 y8 a2).1) ((sp_zad y6 y7 y8 a2).2.1) ((sp_zad y6 y7 y8 a2).2.2)).2.1) ((sp_zam ((sp_zad y3 y4 y5 a1).1) ((sp_zad y3 y4 y5 a1).2.1) ((sp_zad y3 y4 y5 a1).2.2) ((sp_zad y6 y7 y8 a2).1) ((sp_zad y6 y7 y8 a2).2.1) ((sp_zad y6 y7 y8 a2).2.2)).2.2)).2.2)
def w_zc (F : Nat) (y0 y1 y2 y3 y4 y5 y6 y7 y8 y9 y10 y11 y12 y13 y14 y15 y16 y17 a1 a2 : Int) (Q : Int → Int → Int → Prop) : Prop := g_zc_e y0 y1 y2 y3 y4 y5 y6 y7 y8 y9 y10 y11 y12 y13 y14 y15 y16 y17 a1 a2 Q
def sp_zc (y0 y1 y2 y3 y4 y5 y6 y7 y8 y9 y10 y11 y12 y13 y14 y15 y16 y17 a1 a2 : Int) : Int × Int × Int := ((sp_zam y0 y1 y2 ((sp_zam ((sp_zad y3 y4 y5 a1).1) ((sp_zad y3 y4 y5 a1).2.1) ((sp_zad y3 y4 y5 a1).2.2) ((sp_zad y6 y7 y8 a2).1) ((sp_zad y6 y7 y8 a2).2.1) ((sp_zad y6 y7 y8 a2).2.2)).1) ((sp_zam ((sp_zad y3 y4 y5 a1).1) ((sp_zad y3 y4 y5 a1).2.1) ((sp_zad y3 y4 y5 a1).2.2) ((sp_zad y6 y7 y8 a2).1) ((sp_zad y6 y7 y8 a2).2.1) ((sp_zad y6 y7 y8 a2).2.2)).2.1) ((sp_zam ((sp_zad y3 y4 y5 a1).1) ((sp_zad y3 y4 y5 a1).2.1) ((sp_zad y3 y4 y5 a1).2.2) ((sp_zad y6 y7 y8 a2).1) ((sp_zad y6 y7 y8 a2).2.1) ((sp_zad y6 y7 y8 a2).2.2)).2.2)).1, (sp_zam y0 y1 y2 ((sp_zam ((sp_zad y3 y4 y5 a1).1) ((sp_zad y3 y4 y5 a1).2.1) ((sp_zad y3 y4 y5 a1).2.2) ((sp_zad y6 y7 y8 a2).1) ((sp_zad y6 y7 y8 a2).2.1) ((sp_zad y6 y7 y8 a2).2.2)).1) ((sp_zam ((sp_zad y3 y4 y5 a1).1) ((sp_zad y3 y4 y5 a1).2.1) ((sp_zad y3 y4 y5 a1).2.2) ((sp_zad y6 y7 y8 a2).1) ((sp_zad y6 y7 y8 a2).2.1) ((sp_zad y6 y7 y8 a2).2.2)).2.1) ((sp_zam ((sp_zad y3 y4 y5 a1).1) ((sp_zad y3 y4 y5 a1).2.1) ((sp_zad y3 y4 y5 a1).2.2) ((sp_zad y6 y7 y8 a2).1) ((sp_zad y6 y7 y8 a2).2.1) ((sp_zad y6 y7 y8 a2).2.2)).2.2)).2.1, (sp_zam y0 y1 y2 ((sp_zam ((sp_zad y3 y4 y5 a1).1) ((sp_zad y3 y4 y5 a1).2.1) ((sp_zad y3 y4 y5 a1).2.2) ((sp_zad y6 y7 y8 a2).1) ((sp_zad y6 y7 y8 a2).2.1) ((sp_zad y6 y7 y8 a2).2.2)).1) ((sp_zam ((sp_zad y3 y4 y5 a1).1) ((sp_zad y3 y4 y5 a1).2.1) ((sp_zad y3 y4 y5 a1).2.2) ((sp_zad y6 y7 y8 a2).1) ((sp_zad y6 y7 y8 a2).2.1) ((sp_zad y6 y7 y8 a2).2.2)).2.1) ((sp_zam ((sp_zad y3 y4 y5 a1).1) ((sp_zad y3 y4 y5 a1).2.1) ((sp_zad y3 y4 y5 a1).2.2) ((sp_zad y6 y7 y8 a2).1) ((sp_zad y6 y7 y8 a2).2.1) ((sp_zad y6 y7 y8 a2).2.2)).2.2)).2.2)
theorem ok_zc (y0 y1 y2 y3 y4 y5 y6 y7 y8 y9 y10 y11 y12 y13 y14 y15 y16 y17 a1 a2 : Int) : ∃ F, ∀ Q : Int → Int → Int → Prop, Q ((sp_zc y0 y1 y2 y3 y4 y5 y6 y7 y8 y9 y10 y11 y12 y13 y14 y15 y16 y17 a1 a2).1) ((sp_zc y0 y1 y2 y3 y4 y5 y6 y7 y8 y9 y10 y11 y12 y13 y14 y15 y16 y17 a1 a2).2.1) ((sp_zc y0 y1 y2 y3 y4 y5 y6 y7 y8 y9 y10 y11 y12 y13 y14 y15 y16 y17 a1 a2).2.2) → w_zc F y0 y1 y2 y3 y4 y5 y6 y7 y8 y9 y10 y11 y12 y13 y14 y15 y16 y17 a1 a2 Q := by
  refine ⟨0, fun Q h => ?_⟩
  unfold w_zc g_zc_e
  unfold sp_zc at h
  exact h
def M_zq : Nat → Nat → Nat → Canon UU := fun o b r => ⟨[], [], [], [], []⟩
def g_zq_e (a0_X a0_Y a0_W a0_H qj qi qq qp : Int) (Q : Int → Int → Bool → Prop) : Prop := cond ((qj == a0_X) && ((qi == a0_Y) && ((qq == (w64 (a0_X + a0_W))) && ((qp == a0_Y) && true)))) (Q 0 1 true) (cond ((qj == a0_X) && ((qi == (w64 (a0_Y + a0_H))) && ((qq == (w64 (a0_X + a0_W))) && ((qp == (w64 (a0_Y + a0_H))) && true)))) (Q 0 (-1) true) (cond ((qj == a0_X) && ((qi == a0_Y) && ((qq == a0_X) && ((qp == (w64 (a0_Y + a0_H))) && true)))) (Q 1 0 true) (cond ((qj == (w64 (a0_X + a0_W))) && ((qi == a0_Y) && ((qq == (w64 (a0_X + a0_W))) && ((qp == (w64 (a0_Y + a0_H))) && true)))) (Q (-1) 0 true) (Q 0 0 false))))
def w_zq (F : Nat) (a0_X a0_Y a0_W a0_H qj qi qq qp : Int) (Q : Int → Int → Bool → Prop) : Prop := g_zq_e a0_X a0_Y a0_W a0_H qj qi qq qp Q
def sp_zq (a0_X a0_Y a0_W a0_H qj qi qq qp : Int) : Int × Int × Bool := cond ((qj == a0_X) && ((qi == a0_Y) && ((qq == (w64 (a0_X + a0_W))) && ((qp == a0_Y) && true)))) ((0, 1, true)) (cond ((qj == a0_X) && ((qi == (w64 (a0_Y + a0_H))) && ((qq == (w64 (a0_X + a0_W))) && ((qp == (w64 (a0_Y + a0_H))) && true)))) ((0, (-1), true)) (cond ((qj == a0_X) && ((qi == a0_Y) && ((qq == a0_X) && ((qp == (w64 (a0_Y + a0_H))) && true)))) ((1, 0, true)) (cond ((qj == (w64 (a0_X + a0_W))) && ((qi == a0_Y) && ((qq == (w64 (a0_X + a0_W))) && ((qp == (w64 (a0_Y + a0_H))) && true)))) (((-1), 0, true)) ((0, 0, false)))))
theorem ok_zq (a0_X a0_Y a0_W a0_H qj qi qq qp : Int) : ∃ F, ∀ Q : Int → Int → Bool → Prop, Q ((sp_zq a0_X a0_Y a0_W a0_H qj qi qq qp).1) ((sp_zq a0_X a0_Y a0_W a0_H qj qi qq qp).2.1) ((sp_zq a0_X a0_Y a0_W a0_H qj qi qq qp).2.2) → w_zq F a0_X a0_Y a0_W a0_H qj qi qq qp Q := by
  refine ⟨0, fun Q h => ?_⟩
  unfold w_zq g_zq_e
  unfold sp_zq at h
  cases hb0 : (((qj == a0_X) && ((qi == a0_Y) && ((qq == (w64 (a0_X + a0_W))) && ((qp == a0_Y) && true)))))
  · try simp only [hb0, cond_false] at h ⊢
    cases hb1 : (((qj == a0_X) && ((qi == (w64 (a0_Y + a0_H))) && ((qq == (w64 (a0_X + a0_W))) && ((qp == (w64 (a0_Y + a0_H))) && true)))))
    · try simp only [hb1, cond_false] at h ⊢
      cases hb2 : (((qj == a0_X) && ((qi == a0_Y) && ((qq == a0_X) && ((qp == (w64 (a0_Y + a0_H))) && true)))))
      · try simp only [hb2, cond_false] at h ⊢
        cases hb3 : (((qj == (w64 (a0_X + a0_W))) && ((qi == a0_Y) && ((qq == (w64 (a0_X + a0_W))) && ((qp == (w64 (a0_Y + a0_H))) && true)))))
        · try simp only [hb3, cond_false] at h ⊢
          exact h
        · try simp only [hb3, cond_true] at h ⊢
          exact h
      · try simp only [hb2, cond_true] at h ⊢
        exact h
    · try simp only [hb1, cond_true] at h ⊢
      exact h
  · try simp only [hb0, cond_true] at h ⊢
    exact h
def M_zz : Nat → Nat → Nat → Canon UU := fun o b r => ⟨[], [], [], [], []⟩
def g_zz_e (a0_X a0_Y a0_W a0_H qj qi qq qp a2_X a2_Y : Int) (Q : Bool → Prop) : Prop := cond ((a2_X == 1) && ((a2_Y == 0) && true)) (Q (((qj == (w64 (a0_X + a0_W))) && (decide (a0_Y ≤ qi))) && (decide (qp ≤ (w64 (a0_Y + a0_H)))))) (cond ((a2_X == (-1)) && ((a2_Y == 0) && true)) (Q (((qj == a0_X) && (decide (a0_Y ≤ qi))) && (decide (qp ≤ (w64 (a0_Y + a0_H)))))) (cond ((a2_X == 0) && ((a2_Y == 1) && true)) (Q (((qi == (w64 (a0_Y + a0_H))) && (decide (a0_X ≤ qj))) && (decide (qq ≤ (w64 (a0_X + a0_W)))))) (Q (((qi == a0_Y) && (decide (a0_X ≤ qj))) && (decide (qq ≤ (w64 (a0_X + a0_W))))))))
def w_zz (F : Nat) (a0_X a0_Y a0_W a0_H qj qi qq qp a2_X a2_Y : Int) (Q : Bool → Prop) : Prop := g_zz_e a0_X a0_Y a0_W a0_H qj qi qq qp a2_X a2_Y Q
def sp_zz (a0_X a0_Y a0_W a0_H qj qi qq qp a2_X a2_Y : Int) : Bool := cond ((a2_X == 1) && ((a2_Y == 0) && true)) ((((qj == (w64 (a0_X + a0_W))) && (decide (a0_Y ≤ qi))) && (decide (qp ≤ (w64 (a0_Y + a0_H)))))) (cond ((a2_X == (-1)) && ((a2_Y == 0) && true)) ((((qj == a0_X) && (decide (a0_Y ≤ qi))) && (decide (qp ≤ (w64 (a0_Y + a0_H)))))) (cond ((a2_X == 0) && ((a2_Y == 1) && true)) ((((qi == (w64 (a0_Y + a0_H))) && (decide (a0_X ≤ qj))) && (decide (qq ≤ (w64 (a0_X + a0_W)))))) ((((qi == a0_Y) && (decide (a0_X ≤ qj))) && (decide (qq ≤ (w64 (a0_X + a0_W))))))))
theorem ok_zz (a0_X a0_Y a0_W a0_H qj qi qq qp a2_X a2_Y : Int) : ∃ F, ∀ Q : Bool → Prop, Q (sp_zz a0_X a0_Y a0_W a0_H qj qi qq qp a2_X a2_Y) → w_zz F a0_X a0_Y a0_W a0_H qj qi qq qp a2_X a2_Y Q := by
  refine ⟨0, fun Q h => ?_⟩
  unfold w_zz g_zz_e
  unfold sp_zz at h
  cases hb0 : (((a2_X == 1) && ((a2_Y == 0) && true)))
  · try simp only [hb0, cond_false] at h ⊢
    cases hb1 : (((a2_X == (-1)) && ((a2_Y == 0) && true)))
    · try simp only [hb1, cond_false] at h ⊢
      cases hb2 : (((a2_X == 0) && ((a2_Y == 1) && true)))
      · try simp only [hb2, cond_false] at h ⊢
        exact h
      · try simp only [hb2, cond_true] at h ⊢
        exact h
    · try simp only [hb1, cond_true] at h ⊢
      exact h
  · try simp only [hb0, cond_true] at h ⊢
    exact h
def M_zbm : Nat → Nat → Nat → Canon UU := fun o b r => ⟨[], [], [], [], []⟩
def g_zbm_e (a0_X a0_Y a0_Z a1_X a1_Y a1_Z : Int) (Q : Int → Int → Int → Prop) : Prop := Q (w64 ((w64 (a0_Y * a1_Z)) - (w64 (a0_Z * a1_Y)))) (w64 ((w64 (a0_Z * a1_X)) - (w64 (a0_X * a1_Z)))) (w64 ((w64 (a0_X * a1_Y)) - (w64 (a0_Y * a1_X))))
def w_zbm (F : Nat) (a0_X a0_Y a0_Z a1_X a1_Y a1_Z : Int) (Q : Int → Int → Int → Prop) : Prop := g_zbm_e a0_X a0_Y a0_Z a1_X a1_Y a1_Z Q
def sp_zbm (a0_X a0_Y a0_Z a1_X a1_Y a1_Z : Int) : Int × Int × Int := (w64 ((w64 (a0_Y * a1_Z)) - (w64 (a0_Z * a1_Y))), w64 ((w64 (a0_Z * a1_X)) - (w64 (a0_X * a1_Z))), w64 ((w64 (a0_X * a1_Y)) - (w64 (a0_Y * a1_X))))
theorem ok_zbm (a0_X a0_Y a0_Z a1_X a1_Y a1_Z : Int) : ∃ F, ∀ Q : Int → Int → Int → Prop, Q ((sp_zbm a0_X a0_Y a0_Z a1_X a1_Y a1_Z).1) ((sp_zbm a0_X a0_Y a0_Z a1_X a1_Y a1_Z).2.1) ((sp_zbm a0_X a0_Y a0_Z a1_X a1_Y a1_Z).2.2) → w_zbm F a0_X a0_Y a0_Z a1_X a1_Y a1_Z Q := by
  refine ⟨0, fun Q h => ?_⟩
  unfold w_zbm g_zbm_e
  unfold sp_zbm at h
  exact h
def M_zax : Nat → Nat → Nat → Canon UU := fun o b r => ⟨[], [], [], [], []⟩
def g_zax_e (y0 y1 y2 y3 y4 y5 y6 y7 y8 y9 y10 : Int) (Q : Int → Int → Int → Prop) : Prop := Q ((sp_zbm y3 y4 y5 y6 y7 y8).1) ((sp_zbm y3 y4 y5 y6 y7 y8).2.1) ((sp_zbm y3 y4 y5 y6 y7 y8).2.2)
def w_zax (F : Nat) (y0 y1 y2 y3 y4 y5 y6 y7 y8 y9 y10 : Int) (Q : Int → Int → Int → Prop) : Prop := g_zax_e y0 y1 y2 y3 y4 y5 y6 y7 y8 y9 y10 Q
def sp_zax (y0 y1 y2 y3 y4 y5 y6 y7 y8 y9 y10 : Int) : Int × Int × Int := ((sp_zbm y3 y4 y5 y6 y7 y8).1, (sp_zbm y3 y4 y5 y6 y7 y8).2.1, (sp_zbm y3 y4 y5 y6 y7 y8).2.2)
theorem ok_zax (y0 y1 y2 y3 y4 y5 y6 y7 y8 y9 y10 : Int) : ∃ F, ∀ Q : Int → Int → Int → Prop, Q ((sp_zax y0 y1 y2 y3 y4 y5 y6 y7 y8 y9 y10).1) ((sp_zax y0 y1 y2 y3 y4 y5 y6 y7 y8 y9 y10).2.1) ((sp_zax y0 y1 y2 y3 y4 y5 y6 y7 y8 y9 y10).2.2) → w_zax F y0 y1 y2 y3 y4 y5 y6 y7 y8 y9 y10 Q := by
  refine ⟨0, fun Q h => ?_⟩
  unfold w_zax g_zax_e
  unfold sp_zax at h
  exact h
def M_zg : Nat → Nat → Nat → Canon UU := fun o b r => ⟨[], [], [], [], []⟩
def g_zg_e (y0 y1 y2 y3 y4 y5 y6 y7 y8 y9 y10 y11 y12 y13 y14 y15 y16 y17 a1_X a1_Y a1_W a1_H : Int) (Q : Int → Int → Int → Int → Int → Int → Int → Int → Int → Int → Int → Prop) : Prop := Q ((sp_zc y0 y1 y2 y3 y4 y5 y6 y7 y8 y9 y10 y11 y12 y13 y14 y15 y16 y17 (mi ((sp_zd y0 y1 y2 y3 y4 y5 y6 y7 y8 y9 y10 y11 y12 y13 y14 y15 y16 y17 a1_X a1_Y).1) ((sp_zd y0 y1 y2 y3 y4 y5 y6 y7 y8 y9 y10 y11 y12 y13 y14 y15 y16 y17 (w64 (a1_X + a1_W)) (w64 (a1_Y + a1_H))).1)) (mi ((sp_zd y0 y1 y2 y3 y4 y5 y6 y7 y8 y9 y10 y11 y12 y13 y14 y15 y16 y17 a1_X a1_Y).2) ((sp_zd y0 y1 y2 y3 y4 y5 y6 y7 y8 y9 y10 y11 y12 y13 y14 y15 y16 y17 (w64 (a1_X + a1_W)) (w64 (a1_Y + a1_H))).2))).1) ((sp_zc y0 y1 y2 y3 y4 y5 y6 y7 y8 y9 y10 y11 y12 y13 y14 y15 y16 y17 (mi ((sp_zd y0 y1 y2 y3 y4 y5 y6 y7 y8 y9 y10 y11 y12 y13 y14 y15 y16 y17 a1_X a1_Y).1) ((sp_zd y0 y1 y2 y3 y4 y5 y6 y7 y8 y9 y10 y11 y12 y13 y14 y15 y16 y17 (w64 (a1_X + a1_W)) (w64 (a1_Y + a1_H))).1)) (mi ((sp_zd y0 y1 y2 y3 y4 y5 y6 y7 y8 y9 y10 y11 y12 y13 y14 y15 y16 y17 a1_X a1_Y).2) ((sp_zd y0 y1 y2 y3 y4 y5 y6 y7 y8 y9 y10 y11 y12 y13 y14 y15 y16 y17 (w64 (a1_X + a1_W)) (w64 (a1_Y + a1_H))).2))).2.1) ((sp_zc y0 y1 y2 y3 y4 y5 y6 y7 y8 y9 y10 y11 y12 y13 y14 y15 y16 y17 (mi ((sp_zd y0 y1 y2 y3 y4 y5 y6 y7 y8 y9 y10 y11 y12 y13 y14 y15 y16 y17 a1_X a1_Y).1) ((sp_zd y0 y1 y2 y3 y4 y5 y6 y7 y8 y9 y10 y11 y12 y13 y14 y15 y16 y17 (w64 (a1_X + a1_W)) (w64 (a1_Y + a1_H))).1)) (mi ((sp_zd y0 y1 y2 y3 y4 y5 y6 y7 y8 y9 y10 y11 y12 y13 y14 y15 y16 y17 a1_X a1_Y).2) ((sp_zd y0 y1 y2 y3 y4 y5 y6 y7 y8 y9 y10 y11 y12 y13 y14 y15 y16 y17 (w64 (a1_X + a1_W)) (w64 (a1_Y + a1_H))).2))).2.2) y3 y4 y5 y6 y7 y8 (w64 ((ma ((sp_zd y0 y1 y2 y3 y4 y5 y6 y7 y8 y9 y10 y11 y12 y13 y14 y15 y16 y17 a1_X a1_Y).1) ((sp_zd y0 y1 y2 y3 y4 y5 y6 y7 y8 y9 y10 y11 y12 y13 y14 y15 y16 y17 (w64 (a1_X + a1_W)) (w64 (a1_Y + a1_H))).1)) - (mi ((sp_zd y0 y1 y2 y3 y4 y5 y6 y7 y8 y9 y10 y11 y12 y13 y14 y15 y16 y17 a1_X a1_Y).1) ((sp_zd y0 y1 y2 y3 y4 y5 y6 y7 y8 y9 y10 y11 y12 y13 y14 y15 y16 y17 (w64 (a1_X + a1_W)) (w64 (a1_Y + a1_H))).1)))) (w64 ((ma ((sp_zd y0 y1 y2 y3 y4 y5 y6 y7 y8 y9 y10 y11 y12 y13 y14 y15 y16 y17 a1_X a1_Y).2) ((sp_zd y0 y1 y2 y3 y4 y5 y6 y7 y8 y9 y10 y11 y12 y13 y14 y15 y16 y17 (w64 (a1_X + a1_W)) (w64 (a1_Y + a1_H))).2)) - (mi ((sp_zd y0 y1 y2 y3 y4 y5 y6 y7 y8 y9 y10 y11 y12 y13 y14 y15 y16 y17 a1_X a1_Y).2) ((sp_zd y0 y1 y2 y3 y4 y5 y6 y7 y8 y9 y10 y11 y12 y13 y14 y15 y16 y17 (w64 (a1_X + a1_W)) (w64 (a1_Y + a1_H))).2))))
def w_zg (F : Nat) (y0 y1 y2 y3 y4 y5 y6 y7 y8 y9 y10 y11 y12 y13 y14 y15 y16 y17 a1_X a1_Y a1_W a1_H : Int) (Q : Int → Int → Int → Int → Int → Int → Int → Int → Int → Int → Int → Prop) : Prop := g_zg_e y0 y1 y2 y3 y4 y5 y6 y7 y8 y9 y10 y11 y12 y13 y14 y15 y16 y17 a1_X a1_Y a1_W a1_H Q
def sp_zg (y0 y1 y2 y3 y4 y5 y6 y7 y8 y9 y10 y11 y12 y13 y14 y15 y16 y17 a1_X a1_Y a1_W a1_H : Int) : Int × Int × Int × Int × Int × Int × Int × Int × Int × Int × Int := ((sp_zc y0 y1 y2 y3 y4 y5 y6 y7 y8 y9 y10 y11 y12 y13 y14 y15 y16 y17 (mi ((sp_zd y0 y1 y2 y3 y4 y5 y6 y7 y8 y9 y10 y11 y12 y13 y14 y15 y16 y17 a1_X a1_Y).1) ((sp_zd y0 y1 y2 y3 y4 y5 y6 y7 y8 y9 y10 y11 y12 y13 y14 y15 y16 y17 (w64 (a1_X + a1_W)) (w64 (a1_Y + a1_H))).1)) (mi ((sp_zd y0 y1 y2 y3 y4 y5 y6 y7 y8 y9 y10 y11 y12 y13 y14 y15 y16 y17 a1_X a1_Y).2) ((sp_zd y0 y1 y2 y3 y4 y5 y6 y7 y8 y9 y10 y11 y12 y13 y14 y15 y16 y17 (w64 (a1_X + a1_W)) (w64 (a1_Y + a1_H))).2))).1, (sp_zc y0 y1 y2 y3 y4 y5 y6 y7 y8 y9 y10 y11 y12 y13 y14 y15 y16 y17 (mi ((sp_zd y0 y1 y2 y3 y4 y5 y6 y7 y8 y9 y10 y11 y12 y13 y14 y15 y16 y17 a1_X a1_Y).1) ((sp_zd y0 y1 y2 y3 y4 y5 y6 y7 y8 y9 y10 y11 y12 y13 y14 y15 y16 y17 (w64 (a1_X + a1_W)) (w64 (a1_Y + a1_H))).1)) (mi ((sp_zd y0 y1 y2 y3 y4 y5 y6 y7 y8 y9 y10 y11 y12 y13 y14 y15 y16 y17 a1_X a1_Y).2) ((sp_zd y0 y1 y2 y3 y4 y5 y6 y7 y8 y9 y10 y11 y12 y13 y14 y15 y16 y17 (w64 (a1_X + a1_W)) (w64 (a1_Y + a1_H))).2))).2.1, (sp_zc y0 y1 y2 y3 y4 y5 y6 y7 y8 y9 y10 y11 y12 y13 y14 y15 y16 y17 (mi ((sp_zd y0 y1 y2 y3 y4 y5 y6 y7 y8 y9 y10 y11 y12 y13 y14 y15 y16 y17 a1_X a1_Y).1) ((sp_zd y0 y1 y2 y3 y4 y5 y6 y7 y8 y9 y10 y11 y12 y13 y14 y15 y16 y17 (w64 (a1_X + a1_W)) (w64 (a1_Y + a1_H))).1)) (mi ((sp_zd y0 y1 y2 y3 y4 y5 y6 y7 y8 y9 y10 y11 y12 y13 y14 y15 y16 y17 a1_X a1_Y).2) ((sp_zd y0 y1 y2 y3 y4 y5 y6 y7 y8 y9 y10 y11 y12 y13 y14 y15 y16 y17 (w64 (a1_X + a1_W)) (w64 (a1_Y + a1_H))).2))).2.2, y3, y4, y5, y6, y7, y8, w64 ((ma ((sp_zd y0 y1 y2 y3 y4 y5 y6 y7 y8 y9 y10 y11 y12 y13 y14 y15 y16 y17 a1_X a1_Y).1) ((sp_zd y0 y1 y2 y3 y4 y5 y6 y7 y8 y9 y10 y11 y12 y13 y14 y15 y16 y17 (w64 (a1_X + a1_W)) (w64 (a1_Y + a1_H))).1)) - (mi ((sp_zd y0 y1 y2 y3 y4 y5 y6 y7 y8 y9 y10 y11 y12 y13 y14 y15 y16 y17 a1_X a1_Y).1) ((sp_zd y0 y1 y2 y3 y4 y5 y6 y7 y8 y9 y10 y11 y12 y13 y14 y15 y16 y17 (w64 (a1_X + a1_W)) (w64 (a1_Y + a1_H))).1))), w64 ((ma ((sp_zd y0 y1 y2 y3 y4 y5 y6 y7 y8 y9 y10 y11 y12 y13 y14 y15 y16 y17 a1_X a1_Y).2) ((sp_zd y0 y1 y2 y3 y4 y5 y6 y7 y8 y9 y10 y11 y12 y13 y14 y15 y16 y17 (w64 (a1_X + a1_W)) (w64 (a1_Y + a1_H))).2)) - (mi ((sp_zd y0 y1 y2 y3 y4 y5 y6 y7 y8 y9 y10 y11 y12 y13 y14 y15 y16 y17 a1_X a1_Y).2) ((sp_zd y0 y1 y2 y3 y4 y5 y6 y7 y8 y9 y10 y11 y12 y13 y14 y15 y16 y17 (w64 (a1_X + a1_W)) (w64 (a1_Y + a1_H))).2))))
theorem ok_zg (y0 y1 y2 y3 y4 y5 y6 y7 y8 y9 y10 y11 y12 y13 y14 y15 y16 y17 a1_X a1_Y a1_W a1_H : Int) : ∃ F, ∀ Q : Int → Int → Int → Int → Int → Int → Int → Int → Int → Int → Int → Prop, Q ((sp_zg y0 y1 y2 y3 y4 y5 y6 y7 y8 y9 y10 y11 y12 y13 y14 y15 y16 y17 a1_X a1_Y a1_W a1_H).1) ((sp_zg y0 y1 y2 y3 y4 y5 y6 y7 y8 y9 y10 y11 y12 y13 y14 y15 y16 y17 a1_X a1_Y a1_W a1_H).2.1) ((sp_zg y0 y1 y2 y3 y4 y5 y6 y7 y8 y9 y10 y11 y12 y13 y14 y15 y16 y17 a1_X a1_Y a1_W a1_H).2.2.1) ((sp_zg y0 y1 y2 y3 y4 y5 y6 y7 y8 y9 y10 y11 y12 y13 y14 y15 y16 y17 a1_X a1_Y a1_W a1_H).2.2.2.1) ((sp_zg y0 y1 y2 y3 y4 y5 y6 y7 y8 y9 y10 y11 y12 y13 y14 y15 y16 y17 a1_X a1_Y a1_W a1_H).2.2.2.2.1) ((sp_zg y0 y1 y2 y3 y4 y5 y6 y7 y8 y9 y10 y11 y12 y13 y14 y15 y16 y17 a1_X a1_Y a1_W a1_H).2.2.2.2.2.1) ((sp_zg y0 y1 y2 y3 y4 y5 y6 y7 y8 y9 y10 y11 y12 y13 y14 y15 y16 y17 a1_X a1_Y a1_W a1_H).2.2.2.2.2.2.1) ((sp_zg y0 y1 y2 y3 y4 y5 y6 y7 y8 y9 y10 y11 y12 y13 y14 y15 y16 y17 a1_X a1_Y a1_W a1_H).2.2.2.2.2.2.2.1) ((sp_zg y0 y1 y2 y3 y4 y5 y6 y7 y8 y9 y10 y11 y12 y13 y14 y15 y16 y17 a1_X a1_Y a1_W a1_H).2.2.2.2.2.2.2.2.1) ((sp_zg y0 y1 y2 y3 y4 y5 y6 y7 y8 y9 y10 y11 y12 y13 y14 y15 y16 y17 a1_X a1_Y a1_W a1_H).2.2.2.2.2.2.2.2.2.1) ((sp_zg y0 y1 y2 y3 y4 y5 y6 y7 y8 y9 y10 y11 y12 y13 y14 y15 y16 y17 a1_X a1_Y a1_W a1_H).2.2.2.2.2.2.2.2.2.2) → w_zg F y0 y1 y2 y3 y4 y5 y6 y7 y8 y9 y10 y11 y12 y13 y14 y15 y16 y17 a1_X a1_Y a1_W a1_H Q := by
  refine ⟨0, fun Q h => ?_⟩
  unfold w_zg g_zg_e
  unfold sp_zg at h
  exact h
def M_zbt : Nat → Nat → Nat → Canon UU := fun o b r => ⟨[], [], [], [], []⟩
def g_zbt_e (a0_x a0_y a1_x a1_y : Int) (Q : Int → Prop) : Prop := Q (w64 ((w64 (a0_x * a1_x)) + (w64 (a0_y * a1_y))))
def w_zbt (F : Nat) (a0_x a0_y a1_x a1_y : Int) (Q : Int → Prop) : Prop := g_zbt_e a0_x a0_y a1_x a1_y Q
def sp_zbt (a0_x a0_y a1_x a1_y : Int) : Int := w64 ((w64 (a0_x * a1_x)) + (w64 (a0_y * a1_y)))
theorem ok_zbt (a0_x a0_y a1_x a1_y : Int) : ∃ F, ∀ Q : Int → Prop, Q (sp_zbt a0_x a0_y a1_x a1_y) → w_zbt F a0_x a0_y a1_x a1_y Q := by
  refine ⟨0, fun Q h => ?_⟩
  unfold w_zbt g_zbt_e
  unfold sp_zbt at h
  exact h
def M_zbu : Nat → Nat → Nat → Canon UU := fun o b r => ⟨[], [], [], [], []⟩
def g_zbu_e (a0_X a0_Y a0_Z a1 a2_X a2_Y a2_Z a3 a4_X a4_Y a4_Z : Int) (Q : Int → Int → Int → Prop) : Prop := Q (w64 ((w64 (a0_X + (w64 (a1 * a2_X)))) + (w64 (a3 * a4_X)))) (w64 ((w64 (a0_Y + (w64 (a1 * a2_Y)))) + (w64 (a3 * a4_Y)))) (w64 ((w64 (a0_Z + (w64 (a1 * a2_Z)))) + (w64 (a3 * a4_Z))))
def w_zbu (F : Nat) (a0_X a0_Y a0_Z a1 a2_X a2_Y a2_Z a3 a4_X a4_Y a4_Z : Int) (Q : Int → Int → Int → Prop) : Prop := g_zbu_e a0_X a0_Y a0_Z a1 a2_X a2_Y a2_Z a3 a4_X a4_Y a4_Z Q
def sp_zbu (a0_X a0_Y a0_Z a1 a2_X a2_Y a2_Z a3 a4_X a4_Y a4_Z : Int) : Int × Int × Int := (w64 ((w64 (a0_X + (w64 (a1 * a2_X)))) + (w64 (a3 * a4_X))), w64 ((w64 (a0_Y + (w64 (a1 * a2_Y)))) + (w64 (a3 * a4_Y))), w64 ((w64 (a0_Z + (w64 (a1 * a2_Z)))) + (w64 (a3 * a4_Z))))
theorem ok_zbu (a0_X a0_Y a0_Z a1 a2_X a2_Y a2_Z a3 a4_X a4_Y a4_Z : Int) : ∃ F, ∀ Q : Int → Int → Int → Prop, Q ((sp_zbu a0_X a0_Y a0_Z a1 a2_X a2_Y a2_Z a3 a4_X a4_Y a4_Z).1) ((sp_zbu a0_X a0_Y a0_Z a1 a2_X a2_Y a2_Z a3 a4_X a4_Y a4_Z).2.1) ((sp_zbu a0_X a0_Y a0_Z a1 a2_X a2_Y a2_Z a3 a4_X a4_Y a4_Z).2.2) → w_zbu F a0_X a0_Y a0_Z a1 a2_X a2_Y a2_Z a3 a4_X a4_Y a4_Z Q := by
  refine ⟨0, fun Q h => ?_⟩
  unfold w_zbu g_zbu_e
  unfold sp_zbu at h
  exact h
def M_zl : Nat → Nat → Nat → Canon UU := fun o b r => ⟨[], [], [], [], []⟩
def g_zl_e (y0 y1 y2 y3 y4 y5 y6 y7 y8 y9 y10 y11 y12 y13 y14 y15 y16 y17 a1_x a1_y : Int) (Q : Int → Int → Prop) : Prop := Q (sp_zbt (w64 (a1_x - y11)) (w64 (a1_y - y12)) y13 y14) (w64 ((sp_zbt (w64 (a1_x - y11)) (w64 (a1_y - y12)) y15 y16) + y17))
def w_zl (F : Nat) (y0 y1 y2 y3 y4 y5 y6 y7 y8 y9 y10 y11 y12 y13 y14 y15 y16 y17 a1_x a1_y : Int) (Q : Int → Int → Prop) : Prop := g_zl_e y0 y1 y2 y3 y4 y5 y6 y7 y8 y9 y10 y11 y12 y13 y14 y15 y16 y17 a1_x a1_y Q
def sp_zl (y0 y1 y2 y3 y4 y5 y6 y7 y8 y9 y10 y11 y12 y13 y14 y15 y16 y17 a1_x a1_y : Int) : Int × Int := ((sp_zbt (w64 (a1_x - y11)) (w64 (a1_y - y12)) y13 y14), w64 ((sp_zbt (w64 (a1_x - y11)) (w64 (a1_y - y12)) y15 y16) + y17))
theorem ok_zl (y0 y1 y2 y3 y4 y5 y6 y7 y8 y9 y10 y11 y12 y13 y14 y15 y16 y17 a1_x a1_y : Int) : ∃ F, ∀ Q : Int → Int → Prop, Q ((sp_zl y0 y1 y2 y3 y4 y5 y6 y7 y8 y9 y10 y11 y12 y13 y14 y15 y16 y17 a1_x a1_y).1) ((sp_zl y0 y1 y2 y3 y4 y5 y6 y7 y8 y9 y10 y11 y12 y13 y14 y15 y16 y17 a1_x a1_y).2) → w_zl F y0 y1 y2 y3 y4 y5 y6 y7 y8 y9 y10 y11 y12 y13 y14 y15 y16 y17 a1_x a1_y Q := by
  refine ⟨0, fun Q h => ?_⟩
  unfold w_zl g_zl_e
  unfold sp_zl at h
  exact h
def M_zm : Nat → Nat → Nat → Canon UU := fun o b r => ⟨[], [], [], [], []⟩
def g_zm_e (y0 y1 y2 y3 y4 y5 y6 y7 y8 y9 y10 y11 y12 y13 y14 y15 y16 y17 a1_x a1_y : Int) (Q : Int → Int → Int → Prop) : Prop := Q ((sp_zbu y0 y1 y2 ((sp_zl y0 y1 y2 y3 y4 y5 y6 y7 y8 y9 y10 y11 y12 y13 y14 y15 y16 y17 a1_x a1_y).1) y3 y4 y5 ((sp_zl y0 y1 y2 y3 y4 y5 y6 y7 y8 y9 y10 y11 y12 y13 y14 y15 y16 y17 a1_x a1_y).2) y6 y7 y8).1) ((sp_zbu y0 y1 y2 ((sp_zl y0 y1 y2 y3 y4 y5 y6 y7 y8 y9 y10 y11 y12 y13 y14 y15 y16 y17 a1_x a1_y).1) y3 y4 y5 ((sp_zl y0 y1 y2 y3 y4 y5 y6 y7 y8 y9 y10 y11 y12 y13 y14 y15 y16 y17 a1_x a1_y).2) y6 y7 y8).2.1) ((sp_zbu y0 y1 y2 ((sp_zl y0 y1 y2 y3 y4 y5 y6 y7 y8 y9 y10 y11 y12 y13 y14 y15 y16 y17 a1_x a1_y).1) y3 y4 y5 ((sp_zl y0 y1 y2 y3 y4 y5 y6 y7 y8 y9 y10 y11 y12 y13 y14 y15 y16 y17 a1_x a1_y).2) y6 y7 y8).2.2)
def w_zm (F : Nat) (y0 y1 y2 y3 y4 y5 y6 y7 y8 y9 y10 y11 y12 y13 y14 y15 y16 y17 a1_x a1_y : Int) (Q : Int → Int → Int → Prop) : Prop := g_zm_e y0 y1 y2 y3 y4 y5 y6 y7 y8 y9 y10 y11 y12 y13 y14 y15 y16 y17 a1_x a1_y Q
def sp_zm (y0 y1 y2 y3 y4 y5 y6 y7 y8 y9 y10 y11 y12 y13 y14 y15 y16 y17 a1_x a1_y : Int) : Int × Int × Int := ((sp_zbu y0 y1 y2 ((sp_zl y0 y1 y2 y3 y4 y5 y6 y7 y8 y9 y10 y11 y12 y13 y14 y15 y16 y17 a1_x a1_y).1) y3 y4 y5 ((sp_zl y0 y1 y2 y3 y4 y5 y6 y7 y8 y9 y10 y11 y12 y13 y14 y15 y16 y17 a1_x a1_y).2) y6 y7 y8).1, (sp_zbu y0 y1 y2 ((sp_zl y0 y1 y2 y3 y4 y5 y6 y7 y8 y9 y10 y11 y12 y13 y14 y15 y16 y17 a1_x a1_y).1) y3 y4 y5 ((sp_zl y0 y1 y2 y3 y4 y5 y6 y7 y8 y9 y10 y11 y12 y13 y14 y15 y16 y17 a1_x a1_y).2) y6 y7 y8).2.1, (sp_zbu y0 y1 y2 ((sp_zl y0 y1 y2 y3 y4 y5 y6 y7 y8 y9 y10 y11 y12 y13 y14 y15 y16 y17 a1_x a1_y).1) y3 y4 y5 ((sp_zl y0 y1 y2 y3 y4 y5 y6 y7 y8 y9 y10 y11 y12 y13 y14 y15 y16 y17 a1_x a1_y).2) y6 y7 y8).2.2)
theorem ok_zm (y0 y1 y2 y3 y4 y5 y6 y7 y8 y9 y10 y11 y12 y13 y14 y15 y16 y17 a1_x a1_y : Int) : ∃ F, ∀ Q : Int → Int → Int → Prop, Q ((sp_zm y0 y1 y2 y3 y4 y5 y6 y7 y8 y9 y10 y11 y12 y13 y14 y15 y16 y17 a1_x a1_y).1) ((sp_zm y0 y1 y2 y3 y4 y5 y6 y7 y8 y9 y10 y11 y12 y13 y14 y15 y16 y17 a1_x a1_y).2.1) ((sp_zm y0 y1 y2 y3 y4 y5 y6 y7 y8 y9 y10 y11 y12 y13 y14 y15 y16 y17 a1_x a1_y).2.2) → w_zm F y0 y1 y2 y3 y4 y5 y6 y7 y8 y9 y10 y11 y12 y13 y14 y15 y16 y17 a1_x a1_y Q := by
  refine ⟨0, fun Q h => ?_⟩
  unfold w_zm g_zm_e
  unfold sp_zm at h
  exact h
def M_za : Nat → Nat → Nat → Canon UU := fun o b r => ⟨[], [], [], [], []⟩
def g_za_e (y0 y1 y2 y3 y4 y5 y6 y7 y8 y9 y10 y11 y12 y13 y14 y15 y16 y17 a1_x a1_y : Int) (Q : Int → Int → Int → Prop) : Prop := Q ((sp_zbu 0 0 0 (sp_zbt a1_x a1_y y13 y14) y3 y4 y5 (sp_zbt a1_x a1_y y15 y16) y6 y7 y8).1) ((sp_zbu 0 0 0 (sp_zbt a1_x a1_y y13 y14) y3 y4 y5 (sp_zbt a1_x a1_y y15 y16) y6 y7 y8).2.1) ((sp_zbu 0 0 0 (sp_zbt a1_x a1_y y13 y14) y3 y4 y5 (sp_zbt a1_x a1_y y15 y16) y6 y7 y8).2.2)
def w_za (F : Nat) (y0 y1 y2 y3 y4 y5 y6 y7 y8 y9 y10 y11 y12 y13 y14 y15 y16 y17 a1_x a1_y : Int) (Q : Int → Int → Int → Prop) : Prop := g_za_e y0 y1 y2 y3 y4 y5 y6 y7 y8 y9 y10 y11 y12 y13 y14 y15 y16 y17 a1_x a1_y Q
def sp_za (y0 y1 y2 y3 y4 y5 y6 y7 y8 y9 y10 y11 y12 y13 y14 y15 y16 y17 a1_x a1_y : Int) : Int × Int × Int := ((sp_zbu 0 0 0 (sp_zbt a1_x a1_y y13 y14) y3 y4 y5 (sp_zbt a1_x a1_y y15 y16) y6 y7 y8).1, (sp_zbu 0 0 0 (sp_zbt a1_x a1_y y13 y14) y3 y4 y5 (sp_zbt a1_x a1_y y15 y16) y6 y7 y8).2.1, (sp_zbu 0 0 0 (sp_zbt a1_x a1_y y13 y14) y3 y4 y5 (sp_zbt a1_x a1_y y15 y16) y6 y7 y8).2.2)
theorem ok_za (y0 y1 y2 y3 y4 y5 y6 y7 y8 y9 y10 y11 y12 y13 y14 y15 y16 y17 a1_x a1_y : Int) : ∃ F, ∀ Q : Int → Int → Int → Prop, Q ((sp_za y0 y1 y2 y3 y4 y5 y6 y7 y8 y9 y10 y11 y12 y13 y14 y15 y16 y17 a1_x a1_y).1) ((sp_za y0 y1 y2 y3 y4 y5 y6 y7 y8 y9 y10 y11 y12 y13 y14 y15 y16 y17 a1_x a1_y).2.1) ((sp_za y0 y1 y2 y3 y4 y5 y6 y7 y8 y9 y10 y11 y12 y13 y14 y15 y16 y17 a1_x a1_y).2.2) → w_za F y0 y1 y2 y3 y4 y5 y6 y7 y8 y9 y10 y11 y12 y13 y14 y15 y16 y17 a1_x a1_y Q := by
  refine ⟨0, fun Q h => ?_⟩
  unfold w_za g_za_e
  unfold sp_za at h
  exact h
def M_zac : Nat → Nat → Nat → Canon UU := fun o b r => ⟨[], [], [], [], []⟩
def g_zac_e (qf qe qh qg a1_X a1_Y a1_W a1_H a2_X a2_Y a2_W a2_H : Int) (Q : Int → Int → Int → Bool → Prop) : Prop := cond ((((((qe == qg) && (decide (qf < qh))) && (a1_X == qf)) && ((w64 (a1_X + a1_W)) == qh)) && (decide (a2_X ≤ qf))) && (decide (qh ≤ (w64 (a2_X + a2_W))))) (cond ((a1_Y == qe) && ((w64 (a2_Y + a2_H)) == qe)) (Q 0 1 a1_H true) (cond (((w64 (a1_Y + a1_H)) == qe) && (a2_Y == qe)) (Q 0 (-1) a1_H true) (cond ((((((qf == qh) && (decide (qe < qg))) && (a1_Y == qe)) && ((w64 (a1_Y + a1_H)) == qg)) && (decide (a2_Y ≤ qe))) && (decide (qg ≤ (w64 (a2_Y + a2_H))))) (cond ((a1_X == qf) && ((w64 (a2_X + a2_W)) == qf)) (Q 1 0 a1_W true) (cond (((w64 (a1_X + a1_W)) == qf) && (a2_X == qf)) (Q (-1) 0 a1_W true) (Q 0 0 0 false))) (Q 0 0 0 false)))) (cond ((((((qf == qh) && (decide (qe < qg))) && (a1_Y == qe)) && ((w64 (a1_Y + a1_H)) == qg)) && (decide (a2_Y ≤ qe))) && (decide (qg ≤ (w64 (a2_Y + a2_H))))) (cond ((a1_X == qf) && ((w64 (a2_X + a2_W)) == qf)) (Q 1 0 a1_W true) (cond (((w64 (a1_X + a1_W)) == qf) && (a2_X == qf)) (Q (-1) 0 a1_W true) (Q 0 0 0 false))) (Q 0 0 0 false))
def w_zac (F : Nat) (qf qe qh qg a1_X a1_Y a1_W a1_H a2_X a2_Y a2_W a2_H : Int) (Q : Int → Int → Int → Bool → Prop) : Prop := g_zac_e qf qe qh qg a1_X a1_Y a1_W a1_H a2_X a2_Y a2_W a2_H Q
def sp_zac (qf qe qh qg a1_X a1_Y a1_W a1_H a2_X a2_Y a2_W a2_H : Int) : Int × Int × Int × Bool := cond ((((((qe == qg) && (decide (qf < qh))) && (a1_X == qf)) && ((w64 (a1_X + a1_W)) == qh)) && (decide (a2_X ≤ qf))) && (decide (qh ≤ (w64 (a2_X + a2_W))))) (cond ((a1_Y == qe) && ((w64 (a2_Y + a2_H)) == qe)) ((0, 1, a1_H, true)) (cond (((w64 (a1_Y + a1_H)) == qe) && (a2_Y == qe)) ((0, (-1), a1_H, true)) (cond ((((((qf == qh) && (decide (qe < qg))) && (a1_Y == qe)) && ((w64 (a1_Y + a1_H)) == qg)) && (decide (a2_Y ≤ qe))) && (decide (qg ≤ (w64 (a2_Y + a2_H))))) (cond ((a1_X == qf) && ((w64 (a2_X + a2_W)) == qf)) ((1, 0, a1_W, true)) (cond (((w64 (a1_X + a1_W)) == qf) && (a2_X == qf)) (((-1), 0, a1_W, true)) ((0, 0, 0, false)))) ((0, 0, 0, false))))) (cond ((((((qf == qh) && (decide (qe < qg))) && (a1_Y == qe)) && ((w64 (a1_Y + a1_H)) == qg)) && (decide (a2_Y ≤ qe))) && (decide (qg ≤ (w64 (a2_Y + a2_H))))) (cond ((a1_X == qf) && ((w64 (a2_X + a2_W)) == qf)) ((1, 0, a1_W, true)) (cond (((w64 (a1_X + a1_W)) == qf) && (a2_X == qf)) (((-1), 0, a1_W, true)) ((0, 0, 0, false)))) ((0, 0, 0, false)))
theorem ok_zac (qf qe qh qg a1_X a1_Y a1_W a1_H a2_X a2_Y a2_W a2_H : Int) : ∃ F, ∀ Q : Int → Int → Int → Bool → Prop, Q ((sp_zac qf qe qh qg a1_X a1_Y a1_W a1_H a2_X a2_Y a2_W a2_H).1) ((sp_zac qf qe qh qg a1_X a1_Y a1_W a1_H a2_X a2_Y a2_W a2_H).2.1) ((sp_zac qf qe qh qg a1_X a1_Y a1_W a1_H a2_X a2_Y a2_W a2_H).2.2.1) ((sp_zac qf qe qh qg a1_X a1_Y a1_W a1_H a2_X a2_Y a2_W a2_H).2.2.2) → w_zac F qf qe qh qg a1_X a1_Y a1_W a1_H a2_X a2_Y a2_W a2_H Q := by
  refine ⟨0, fun Q h => ?_⟩
  unfold w_zac g_zac_e
  unfold sp_zac at h
  cases hb0 : (((((((qe == qg) && (decide (qf < qh))) && (a1_X == qf)) && ((w64 (a1_X + a1_W)) == qh)) && (decide (a2_X ≤ qf))) && (decide (qh ≤ (w64 (a2_X + a2_W))))))
  · try simp only [hb0, cond_false] at h ⊢
    cases hb1 : (((((((qf == qh) && (decide (qe < qg))) && (a1_Y == qe)) && ((w64 (a1_Y + a1_H)) == qg)) && (decide (a2_Y ≤ qe))) && (decide (qg ≤ (w64 (a2_Y + a2_H))))))
    · try simp only [hb1, cond_false] at h ⊢
      exact h
    · try simp only [hb1, cond_true] at h ⊢
      cases hb2 : (((a1_X == qf) && ((w64 (a2_X + a2_W)) == qf)))
      · try simp only [hb2, cond_false] at h ⊢
        cases hb3 : ((((w64 (a1_X + a1_W)) == qf) && (a2_X == qf)))
        · try simp only [hb3, cond_false] at h ⊢
          exact h
        · try simp only [hb3, cond_true] at h ⊢
          exact h
      · try simp only [hb2, cond_true] at h ⊢
        exact h
  · try simp only [hb0, cond_true] at h ⊢
    cases hb4 : (((a1_Y == qe) && ((w64 (a2_Y + a2_H)) == qe)))
    · try simp only [hb4, cond_false] at h ⊢
      cases hb5 : ((((w64 (a1_Y + a1_H)) == qe) && (a2_Y == qe)))
      · try simp only [hb5, cond_false] at h ⊢
        cases hb6 : (((((((qf == qh) && (decide (qe < qg))) && (a1_Y == qe)) && ((w64 (a1_Y + a1_H)) == qg)) && (decide (a2_Y ≤ qe))) && (decide (qg ≤ (w64 (a2_Y + a2_H))))))
        · try simp only [hb6, cond_false] at h ⊢
          exact h
        · try simp only [hb6, cond_true] at h ⊢
          cases hb7 : (((a1_X == qf) && ((w64 (a2_X + a2_W)) == qf)))
          · try simp only [hb7, cond_false] at h ⊢
            cases hb8 : ((((w64 (a1_X + a1_W)) == qf) && (a2_X == qf)))
            · try simp only [hb8, cond_false] at h ⊢
              exact h
            · try simp only [hb8, cond_true] at h ⊢
              exact h
          · try simp only [hb7, cond_true] at h ⊢
            exact h
      · try simp only [hb5, cond_true] at h ⊢
        exact h
    · try simp only [hb4, cond_true] at h ⊢
      exact h
def M_zbe : Nat → Nat → Nat → Canon UU := fun o b r => ⟨[], [], [], [], []⟩
def g_zbe_e (a0_X a0_Y a0_Z a1 : Int) (Q : Int → Int → Int → Prop) : Prop := Q (w64 (a1 * a0_X)) (w64 (a1 * a0_Y)) (w64 (a1 * a0_Z))
def w_zbe (F : Nat) (a0_X a0_Y a0_Z a1 : Int) (Q : Int → Int → Int → Prop) : Prop := g_zbe_e a0_X a0_Y a0_Z a1 Q
def sp_zbe (a0_X a0_Y a0_Z a1 : Int) : Int × Int × Int := (w64 (a1 * a0_X), w64 (a1 * a0_Y), w64 (a1 * a0_Z))
theorem ok_zbe (a0_X a0_Y a0_Z a1 : Int) : ∃ F, ∀ Q : Int → Int → Int → Prop, Q ((sp_zbe a0_X a0_Y a0_Z a1).1) ((sp_zbe a0_X a0_Y a0_Z a1).2.1) ((sp_zbe a0_X a0_Y a0_Z a1).2.2) → w_zbe F a0_X a0_Y a0_Z a1 Q := by
  refine ⟨0, fun Q h => ?_⟩
  unfold w_zbe g_zbe_e
  unfold sp_zbe at h
  exact h
def M_zau : Nat → Nat → Nat → Canon UU := fun o b r => ⟨[], [], [], [], []⟩
def g_zau_e (a0 : Int) (a1 : Bool) (a2_X a2_Y a2_Z a3_X a3_Y a3_Z : Int) (Q : Int → Int → Int → Prop) : Prop := cond (!a1) (Q a2_X a2_Y a2_Z) (cond (a0 == 90) (Q a3_X a3_Y a3_Z) (cond (a0 == (-90)) (Q ((sp_zbe a3_X a3_Y a3_Z (-1)).1) ((sp_zbe a3_X a3_Y a3_Z (-1)).2.1) ((sp_zbe a3_X a3_Y a3_Z (-1)).2.2)) (Q ((sp_zbe a2_X a2_Y a2_Z (-1)).1) ((sp_zbe a2_X a2_Y a2_Z (-1)).2.1) ((sp_zbe a2_X a2_Y a2_Z (-1)).2.2))))
def w_zau (F : Nat) (a0 : Int) (a1 : Bool) (a2_X a2_Y a2_Z a3_X a3_Y a3_Z : Int) (Q : Int → Int → Int → Prop) : Prop := g_zau_e a0 a1 a2_X a2_Y a2_Z a3_X a3_Y a3_Z Q
def sp_zau (a0 : Int) (a1 : Bool) (a2_X a2_Y a2_Z a3_X a3_Y a3_Z : Int) : Int × Int × Int := cond (!a1) ((a2_X, a2_Y, a2_Z)) (cond (a0 == 90) ((a3_X, a3_Y, a3_Z)) (cond (a0 == (-90)) (((sp_zbe a3_X a3_Y a3_Z (-1)).1, (sp_zbe a3_X a3_Y a3_Z (-1)).2.1, (sp_zbe a3_X a3_Y a3_Z (-1)).2.2)) (((sp_zbe a2_X a2_Y a2_Z (-1)).1, (sp_zbe a2_X a2_Y a2_Z (-1)).2.1, (sp_zbe a2_X a2_Y a2_Z (-1)).2.2))))
theorem ok_zau (a0 : Int) (a1 : Bool) (a2_X a2_Y a2_Z a3_X a3_Y a3_Z : Int) : ∃ F, ∀ Q : Int → Int → Int → Prop, Q ((sp_zau a0 a1 a2_X a2_Y a2_Z a3_X a3_Y a3_Z).1) ((sp_zau a0 a1 a2_X a2_Y a2_Z a3_X a3_Y a3_Z).2.1) ((sp_zau a0 a1 a2_X a2_Y a2_Z a3_X a3_Y a3_Z).2.2) → w_zau F a0 a1 a2_X a2_Y a2_Z a3_X a3_Y a3_Z Q := by
  refine ⟨0, fun Q h => ?_⟩
  unfold w_zau g_zau_e
  unfold sp_zau at h
  cases hb0 : (!a1)
  · try simp only [hb0, cond_false] at h ⊢
    cases hb1 : (a0 == 90)
    · try simp only [hb1, cond_false] at h ⊢
      cases hb2 : (a0 == (-90))
      · try simp only [hb2, cond_false] at h ⊢
        exact h
      · try simp only [hb2, cond_true] at h ⊢
        exact h
    · try simp only [hb1, cond_true] at h ⊢
      exact h
  · try simp only [hb0, cond_true] at h ⊢
    exact h
def M_zbr : Nat → Nat → Nat → Canon UU := fun o b r => ⟨[], [], [], [], []⟩
def g_zbr_e (a0_0 a0_1 a0_2 : Int) (Q : Int → Int → Int → Prop) : Prop := (((0 ≤ (0 : Int) ∧ (0 : Int) < 3) ∧ ((0 ≤ (1 : Int) ∧ (1 : Int) < 3) ∧ (0 ≤ (2 : Int) ∧ (2 : Int) < 3))) ∧ Q a0_0 a0_1 a0_2)
def w_zbr (F : Nat) (a0_0 a0_1 a0_2 : Int) (Q : Int → Int → Int → Prop) : Prop := g_zbr_e a0_0 a0_1 a0_2 Q
def sp_zbr (a0_0 a0_1 a0_2 : Int) : Int × Int × Int := (a0_0, a0_1, a0_2)
theorem ok_zbr (a0_0 a0_1 a0_2 : Int) : ∃ F, ∀ Q : Int → Int → Int → Prop, Q ((sp_zbr a0_0 a0_1 a0_2).1) ((sp_zbr a0_0 a0_1 a0_2).2.1) ((sp_zbr a0_0 a0_1 a0_2).2.2) → w_zbr F a0_0 a0_1 a0_2 Q := by
  refine ⟨0, fun Q h => ?_⟩
  unfold w_zbr g_zbr_e
  unfold sp_zbr at h
  refine ⟨⟨by decide, by decide, by decide⟩, ?_⟩
  exact h
def M_zbc : Nat → Nat → Nat → Canon UU := fun o b r => ⟨[], [], [], [], []⟩
def g_zbc_e (a0_X a0_Y a0_Z : Int) (Q : Int → Int → Int → Prop) : Prop := Q a0_X a0_Y a0_Z
def w_zbc (F : Nat) (a0_X a0_Y a0_Z : Int) (Q : Int → Int → Int → Prop) : Prop := g_zbc_e a0_X a0_Y a0_Z Q
def sp_zbc (a0_X a0_Y a0_Z : Int) : Int × Int × Int := (a0_X, a0_Y, a0_Z)
theorem ok_zbc (a0_X a0_Y a0_Z : Int) : ∃ F, ∀ Q : Int → Int → Int → Prop, Q ((sp_zbc a0_X a0_Y a0_Z).1) ((sp_zbc a0_X a0_Y a0_Z).2.1) ((sp_zbc a0_X a0_Y a0_Z).2.2) → w_zbc F a0_X a0_Y a0_Z Q := by
  refine ⟨0, fun Q h => ?_⟩
  unfold w_zbc g_zbc_e
  unfold sp_zbc at h
  exact h
def M_zba : Nat → Nat → Nat → Canon UU := fun o b r => ⟨[], [], [], [], []⟩
def g_zba_e (a0_0 a0_1 a0_2 a1_0 a1_1 a1_2 : Int) (Q : Int → Int → Int → Prop) : Prop := (((0 ≤ (1 : Int) ∧ (1 : Int) < 3) ∧ ((0 ≤ (2 : Int) ∧ (2 : Int) < 3) ∧ ((0 ≤ (2 : Int) ∧ (2 : Int) < 3) ∧ ((0 ≤ (1 : Int) ∧ (1 : Int) < 3) ∧ ((0 ≤ (2 : Int) ∧ (2 : Int) < 3) ∧ ((0 ≤ (0 : Int) ∧ (0 : Int) < 3) ∧ ((0 ≤ (0 : Int) ∧ (0 : Int) < 3) ∧ ((0 ≤ (2 : Int) ∧ (2 : Int) < 3) ∧ ((0 ≤ (0 : Int) ∧ (0 : Int) < 3) ∧ ((0 ≤ (1 : Int) ∧ (1 : Int) < 3) ∧ ((0 ≤ (1 : Int) ∧ (1 : Int) < 3) ∧ (0 ≤ (0 : Int) ∧ (0 : Int) < 3)))))))))))) ∧ Q (w64 ((w64 (a0_1 * a1_2)) - (w64 (a0_2 * a1_1)))) (w64 ((w64 (a0_2 * a1_0)) - (w64 (a0_0 * a1_2)))) (w64 ((w64 (a0_0 * a1_1)) - (w64 (a0_1 * a1_0)))))
def w_zba (F : Nat) (a0_0 a0_1 a0_2 a1_0 a1_1 a1_2 : Int) (Q : Int → Int → Int → Prop) : Prop := g_zba_e a0_0 a0_1 a0_2 a1_0 a1_1 a1_2 Q
def sp_zba (a0_0 a0_1 a0_2 a1_0 a1_1 a1_2 : Int) : Int × Int × Int := (w64 ((w64 (a0_1 * a1_2)) - (w64 (a0_2 * a1_1))), w64 ((w64 (a0_2 * a1_0)) - (w64 (a0_0 * a1_2))), w64 ((w64 (a0_0 * a1_1)) - (w64 (a0_1 * a1_0))))
theorem ok_zba (a0_0 a0_1 a0_2 a1_0 a1_1 a1_2 : Int) : ∃ F, ∀ Q : Int → Int → Int → Prop, Q ((sp_zba a0_0 a0_1 a0_2 a1_0 a1_1 a1_2).1) ((sp_zba a0_0 a0_1 a0_2 a1_0 a1_1 a1_2).2.1) ((sp_zba a0_0 a0_1 a0_2 a1_0 a1_1 a1_2).2.2) → w_zba F a0_0 a0_1 a0_2 a1_0 a1_1 a1_2 Q := by
  refine ⟨0, fun Q h => ?_⟩
  unfold w_zba g_zba_e
  unfold sp_zba at h
  refine ⟨⟨by decide, by decide, by decide, by decide, by decide, by decide, by decide, by decide, by decide, by decide, by decide, by decide⟩, ?_⟩
  exact h
def M_zat : Nat → Nat → Nat → Canon UU := fun o b r => ⟨[], [], [], [], []⟩
def g_zat_e (y0 y1 y2 y3 y4 y5 y6 y7 y8 y9 y10 : Int) (Q : Int → Int → Int → Prop) : Prop := Q ((sp_zbr ((sp_zba ((sp_zbc y3 y4 y5).1) ((sp_zbc y3 y4 y5).2.1) ((sp_zbc y3 y4 y5).2.2) ((sp_zbc y6 y7 y8).1) ((sp_zbc y6 y7 y8).2.1) ((sp_zbc y6 y7 y8).2.2)).1) ((sp_zba ((sp_zbc y3 y4 y5).1) ((sp_zbc y3 y4 y5).2.1) ((sp_zbc y3 y4 y5).2.2) ((sp_zbc y6 y7 y8).1) ((sp_zbc y6 y7 y8).2.1) ((sp_zbc y6 y7 y8).2.2)).2.1) ((sp_zba ((sp_zbc y3 y4 y5).1) ((sp_zbc y3 y4 y5).2.1) ((sp_zbc y3 y4 y5).2.2) ((sp_zbc y6 y7 y8).1) ((sp_zbc y6 y7 y8).2.1) ((sp_zbc y6 y7 y8).2.2)).2.2)).1) ((sp_zbr ((sp_zba ((sp_zbc y3 y4 y5).1) ((sp_zbc y3 y4 y5).2.1) ((sp_zbc y3 y4 y5).2.2) ((sp_zbc y6 y7 y8).1) ((sp_zbc y6 y7 y8).2.1) ((sp_zbc y6 y7 y8).2.2)).1) ((sp_zba ((sp_zbc y3 y4 y5).1) ((sp_zbc y3 y4 y5).2.1) ((sp_zbc y3 y4 y5).2.2) ((sp_zbc y6 y7 y8).1) ((sp_zbc y6 y7 y8).2.1) ((sp_zbc y6 y7 y8).2.2)).2.1) ((sp_zba ((sp_zbc y3 y4 y5).1) ((sp_zbc y3 y4 y5).2.1) ((sp_zbc y3 y4 y5).2.2) ((sp_zbc y6 y7 y8).1) ((sp_zbc y6 y7 y8).2.1) ((sp_zbc y6 y7 y8).2.2)).2.2)).2.1) ((sp_zbr ((sp_zba ((sp_zbc y3 y4 y5).1) ((sp_zbc y3 y4 y5).2.1) ((sp_zbc y3 y4 y5).2.2) ((sp_zbc y6 y7 y8).1) ((sp_zbc y6 y7 y8).2.1) ((sp_zbc y6 y7 y8).2.2)).1) ((sp_zba ((sp_zbc y3 y4 y5).1) ((sp_zbc y3 y4 y5).2.1) ((sp_zbc y3 y4 y5).2.2) ((sp_zbc y6 y7 y8).1) ((sp_zbc y6 y7 y8).2.1) ((sp_zbc y6 y7 y8).2.2)).2.1) ((sp_zba ((sp_zbc y3 y4 y5).1) ((sp_zbc y3 y4 y5).2.1) ((sp_zbc y3 y4 y5).2.2) ((sp_zbc y6 y7 y8).1) ((sp_zbc y6 y7 y8).2.1) ((sp_zbc y6 y7 y8).2.2)).2.2)).2.2)
def w_zat (F : Nat) (y0 y1 y2 y3 y4 y5 y6 y7 y8 y9 y10 : Int) (Q : Int → Int → Int → Prop) : Prop := g_zat_e y0 y1 y2 y3 y4 y5 y6 y7 y8 y9 y10 Q
def sp_zat (y0 y1 y2 y3 y4 y5 y6 y7 y8 y9 y10 : Int) : Int × Int × Int := ((sp_zbr ((sp_zba ((sp_zbc y3 y4 y5).1) ((sp_zbc y3 y4 y5).2.1) ((sp_zbc y3 y4 y5).2.2) ((sp_zbc y6 y7 y8).1) ((sp_zbc y6 y7 y8).2.1) ((sp_zbc y6 y7 y8).2.2)).1) ((sp_zba ((sp_zbc y3 y4 y5).1) ((sp_zbc y3 y4 y5).2.1) ((sp_zbc y3 y4 y5).2.2) ((sp_zbc y6 y7 y8).1) ((sp_zbc y6 y7 y8).2.1) ((sp_zbc y6 y7 y8).2.2)).2.1) ((sp_zba ((sp_zbc y3 y4 y5).1) ((sp_zbc y3 y4 y5).2.1) ((sp_zbc y3 y4 y5).2.2) ((sp_zbc y6 y7 y8).1) ((sp_zbc y6 y7 y8).2.1) ((sp_zbc y6 y7 y8).2.2)).2.2)).1, (sp_zbr ((sp_zba ((sp_zbc y3 y4 y5).1) ((sp_zbc y3 y4 y5).2.1) ((sp_zbc y3 y4 y5).2.2) ((sp_zbc y6 y7 y8).1) ((sp_zbc y6 y7 y8).2.1) ((sp_zbc y6 y7 y8).2.2)).1) ((sp_zba ((sp_zbc y3 y4 y5).1) ((sp_zbc y3 y4 y5).2.1) ((sp_zbc y3 y4 y5).2.2) ((sp_zbc y6 y7 y8).1) ((sp_zbc y6 y7 y8).2.1) ((sp_zbc y6 y7 y8).2.2)).2.1) ((sp_zba ((sp_zbc y3 y4 y5).1) ((sp_zbc y3 y4 y5).2.1) ((sp_zbc y3 y4 y5).2.2) ((sp_zbc y6 y7 y8).1) ((sp_zbc y6 y7 y8).2.1) ((sp_zbc y6 y7 y8).2.2)).2.2)).2.1, (sp_zbr ((sp_zba ((sp_zbc y3 y4 y5).1) ((sp_zbc y3 y4 y5).2.1) ((sp_zbc y3 y4 y5).2.2) ((sp_zbc y6 y7 y8).1) ((sp_zbc y6 y7 y8).2.1) ((sp_zbc y6 y7 y8).2.2)).1) ((sp_zba ((sp_zbc y3 y4 y5).1) ((sp_zbc y3 y4 y5).2.1) ((sp_zbc y3 y4 y5).2.2) ((sp_zbc y6 y7 y8).1) ((sp_zbc y6 y7 y8).2.1) ((sp_zbc y6 y7 y8).2.2)).2.1) ((sp_zba ((sp_zbc y3 y4 y5).1) ((sp_zbc y3 y4 y5).2.1) ((sp_zbc y3 y4 y5).2.2) ((sp_zbc y6 y7 y8).1) ((sp_zbc y6 y7 y8).2.1) ((sp_zbc y6 y7 y8).2.2)).2.2)).2.2)
theorem ok_zat (y0 y1 y2 y3 y4 y5 y6 y7 y8 y9 y10 : Int) : ∃ F, ∀ Q : Int → Int → Int → Prop, Q ((sp_zat y0 y1 y2 y3 y4 y5 y6 y7 y8 y9 y10).1) ((sp_zat y0 y1 y2 y3 y4 y5 y6 y7 y8 y9 y10).2.1) ((sp_zat y0 y1 y2 y3 y4 y5 y6 y7 y8 y9 y10).2.2) → w_zat F y0 y1 y2 y3 y4 y5 y6 y7 y8 y9 y10 Q := by
  refine ⟨0, fun Q h => ?_⟩
  unfold w_zat g_zat_e
  unfold sp_zat at h
  exact h
def M_fh1 : Nat → Nat → Nat → Canon UU := fun o b r => ⟨[], [], [], [], []⟩
def g_fh1_e (a_0 a_1 a_2 a_3 r_0 r_1 r_2 r_3 : Int) (Q : Bool → Prop) : Prop := Q (sp_zaz r_0 r_1 r_2 r_3 a_0 a_1 a_2 a_3)
def w_fh1 (F : Nat) (a_0 a_1 a_2 a_3 r_0 r_1 r_2 r_3 : Int) (Q : Bool → Prop) : Prop := g_fh1_e a_0 a_1 a_2 a_3 r_0 r_1 r_2 r_3 Q
def sp_fh1 (a_0 a_1 a_2 a_3 r_0 r_1 r_2 r_3 : Int) : Bool := (sp_zaz r_0 r_1 r_2 r_3 a_0 a_1 a_2 a_3)
theorem ok_fh1 (a_0 a_1 a_2 a_3 r_0 r_1 r_2 r_3 : Int) : ∃ F, ∀ Q : Bool → Prop, Q (sp_fh1 a_0 a_1 a_2 a_3 r_0 r_1 r_2 r_3) → w_fh1 F a_0 a_1 a_2 a_3 r_0 r_1 r_2 r_3 Q := by
  refine ⟨0, fun Q h => ?_⟩
  unfold w_fh1 g_fh1_e
  unfold sp_fh1 at h
  exact h
end
end Go.Proofs.YteffpgliiilnjaaGreatDoor
namespace Go.Proofs.YteffpgliiilnjaaGreatDoor
open Go.Vm Go.RowKit
set_option linter.unusedVariables false
noncomputable section
def M_zae : Nat → Nat → Nat → Canon UU := fun o b r => ⟨[], [], [], [], []⟩
def g_zae_e (y0 y1 y2 y3 y4 y5 y6 y7 y8 y9 y10 y11 y12 y13 y14 y15 y16 y17 a1_X a1_Y a1_W a1_H qab qac qx qw qy qz qaa qv : Int) (a3 : Bool) (Q : Int → Int → Int → Int → Int → Int → Int → Int → Int → Int → Int → Int → Int → Int → Int → Int → Int → Int → Prop) : Prop := (let r0 := (sp_zq a1_X a1_Y a1_W a1_H qx qw qy qz); cond (decide ((w64 (r0.2.1 + (w64 (0 - r0.1)))) < 0)) ((let r1 := (sp_zd y0 y1 y2 y3 y4 y5 y6 y7 y8 y9 y10 y11 y12 y13 y14 y15 y16 y17 qy qz); (let r2 := (sp_zc y0 y1 y2 y3 y4 y5 y6 y7 y8 y9 y10 y11 y12 y13 y14 y15 y16 y17 r1.1 r1.2); (let r3 := (sp_zb y0 y1 y2 y3 y4 y5 y6 y7 y8 y9 y10 y11 y12 y13 y14 y15 y16 y17 r0.2.1 (w64 (0 - r0.1))); (let r4 := (sp_zb y0 y1 y2 y3 y4 y5 y6 y7 y8 y9 y10 y11 y12 y13 y14 y15 y16 y17 r0.1 r0.2.1); (let v5 := w64 ((w64 (qy - qx)) + qz); cond (r0.1 == 0) ((let r6 := (sp_zax y0 y1 y2 y3 y4 y5 y6 y7 y8 y9 y10); cond (!a3) (Q r2.1 r2.2.1 r2.2.2 r3.1 r3.2.1 r3.2.2 r4.1 r4.2.1 r4.2.2 (w64 (v5 - qw)) (w64 (a1_H + qv)) qy qz r0.2.1 (w64 (0 - r0.1)) r0.1 r0.2.1 qv) (cond (qaa == 90) (Q r2.1 r2.2.1 r2.2.2 r3.1 r3.2.1 r3.2.2 r6.1 r6.2.1 r6.2.2 (w64 (v5 - qw)) (w64 (a1_H + qv)) qy qz r0.2.1 (w64 (0 - r0.1)) r0.1 r0.2.1 qv) (cond (qaa == (-90)) ((let r7 := (sp_zad r6.1 r6.2.1 r6.2.2 (-1)); Q r2.1 r2.2.1 r2.2.2 r3.1 r3.2.1 r3.2.2 r7.1 r7.2.1 r7.2.2 (w64 (v5 - qw)) (w64 (a1_H + qv)) qy qz r0.2.1 (w64 (0 - r0.1)) r0.1 r0.2.1 qv)) ((let r8 := (sp_zad r4.1 r4.2.1 r4.2.2 (-1)); Q r2.1 r2.2.1 r2.2.2 r3.1 r3.2.1 r3.2.2 r8.1 r8.2.1 r8.2.2 (w64 (v5 - qw)) (w64 (a1_H + qv)) qy qz r0.2.1 (w64 (0 - r0.1)) r0.1 r0.2.1 qv)))))) ((let r9 := (sp_zax y0 y1 y2 y3 y4 y5 y6 y7 y8 y9 y10); cond (!a3) (Q r2.1 r2.2.1 r2.2.2 r3.1 r3.2.1 r3.2.2 r4.1 r4.2.1 r4.2.2 (w64 (v5 - qw)) (w64 (a1_W + qv)) qy qz r0.2.1 (w64 (0 - r0.1)) r0.1 r0.2.1 qv) (cond (qaa == 90) (Q r2.1 r2.2.1 r2.2.2 r3.1 r3.2.1 r3.2.2 r9.1 r9.2.1 r9.2.2 (w64 (v5 - qw)) (w64 (a1_W + qv)) qy qz r0.2.1 (w64 (0 - r0.1)) r0.1 r0.2.1 qv) (cond (qaa == (-90)) ((let r10 := (sp_zad r9.1 r9.2.1 r9.2.2 (-1)); Q r2.1 r2.2.1 r2.2.2 r3.1 r3.2.1 r3.2.2 r10.1 r10.2.1 r10.2.2 (w64 (v5 - qw)) (w64 (a1_W + qv)) qy qz r0.2.1 (w64 (0 - r0.1)) r0.1 r0.2.1 qv)) ((let r11 := (sp_zad r4.1 r4.2.1 r4.2.2 (-1)); Q r2.1 r2.2.1 r2.2.2 r3.1 r3.2.1 r3.2.2 r11.1 r11.2.1 r11.2.2 (w64 (v5 - qw)) (w64 (a1_W + qv)) qy qz r0.2.1 (w64 (0 - r0.1)) r0.1 r0.2.1 qv)))))))))))) ((let r12 := (sp_zd y0 y1 y2 y3 y4 y5 y6 y7 y8 y9 y10 y11 y12 y13 y14 y15 y16 y17 qx qw); (let r13 := (sp_zc y0 y1 y2 y3 y4 y5 y6 y7 y8 y9 y10 y11 y12 y13 y14 y15 y16 y17 r12.1 r12.2); (let r14 := (sp_zb y0 y1 y2 y3 y4 y5 y6 y7 y8 y9 y10 y11 y12 y13 y14 y15 y16 y17 r0.2.1 (w64 (0 - r0.1))); (let r15 := (sp_zb y0 y1 y2 y3 y4 y5 y6 y7 y8 y9 y10 y11 y12 y13 y14 y15 y16 y17 r0.1 r0.2.1); (let v16 := w64 ((w64 (qy - qx)) + qz); cond (r0.1 == 0) ((let r17 := (sp_zax y0 y1 y2 y3 y4 y5 y6 y7 y8 y9 y10); cond (!a3) (Q r13.1 r13.2.1 r13.2.2 r14.1 r14.2.1 r14.2.2 r15.1 r15.2.1 r15.2.2 (w64 (v16 - qw)) (w64 (a1_H + qv)) qx qw r0.2.1 (w64 (0 - r0.1)) r0.1 r0.2.1 qv) (cond (qaa == 90) (Q r13.1 r13.2.1 r13.2.2 r14.1 r14.2.1 r14.2.2 r17.1 r17.2.1 r17.2.2 (w64 (v16 - qw)) (w64 (a1_H + qv)) qx qw r0.2.1 (w64 (0 - r0.1)) r0.1 r0.2.1 qv) (cond (qaa == (-90)) ((let r18 := (sp_zad r17.1 r17.2.1 r17.2.2 (-1)); Q r13.1 r13.2.1 r13.2.2 r14.1 r14.2.1 r14.2.2 r18.1 r18.2.1 r18.2.2 (w64 (v16 - qw)) (w64 (a1_H + qv)) qx qw r0.2.1 (w64 (0 - r0.1)) r0.1 r0.2.1 qv)) ((let r19 := (sp_zad r15.1 r15.2.1 r15.2.2 (-1)); Q r13.1 r13.2.1 r13.2.2 r14.1 r14.2.1 r14.2.2 r19.1 r19.2.1 r19.2.2 (w64 (v16 - qw)) (w64 (a1_H + qv)) qx qw r0.2.1 (w64 (0 - r0.1)) r0.1 r0.2.1 qv)))))) ((let r20 := (sp_zax y0 y1 y2 y3 y4 y5 y6 y7 y8 y9 y10); cond (!a3) (Q r13.1 r13.2.1 r13.2.2 r14.1 r14.2.1 r14.2.2 r15.1 r15.2.1 r15.2.2 (w64 (v16 - qw)) (w64 (a1_W + qv)) qx qw r0.2.1 (w64 (0 - r0.1)) r0.1 r0.2.1 qv) (cond (qaa == 90) (Q r13.1 r13.2.1 r13.2.2 r14.1 r14.2.1 r14.2.2 r20.1 r20.2.1 r20.2.2 (w64 (v16 - qw)) (w64 (a1_W + qv)) qx qw r0.2.1 (w64 (0 - r0.1)) r0.1 r0.2.1 qv) (cond (qaa == (-90)) ((let r21 := (sp_zad r20.1 r20.2.1 r20.2.2 (-1)); Q r13.1 r13.2.1 r13.2.2 r14.1 r14.2.1 r14.2.2 r21.1 r21.2.1 r21.2.2 (w64 (v16 - qw)) (w64 (a1_W + qv)) qx qw r0.2.1 (w64 (0 - r0.1)) r0.1 r0.2.1 qv)) ((let r22 := (sp_zad r15.1 r15.2.1 r15.2.2 (-1)); Q r13.1 r13.2.1 r13.2.2 r14.1 r14.2.1 r14.2.2 r22.1 r22.2.1 r22.2.2 (w64 (v16 - qw)) (w64 (a1_W + qv)) qx qw r0.2.1 (w64 (0 - r0.1)) r0.1 r0.2.1 qv)))))))))))))
def w_zae (F : Nat) (y0 y1 y2 y3 y4 y5 y6 y7 y8 y9 y10 y11 y12 y13 y14 y15 y16 y17 a1_X a1_Y a1_W a1_H qab qac qx qw qy qz qaa qv : Int) (a3 : Bool) (Q : Int → Int → Int → Int → Int → Int → Int → Int → Int → Int → Int → Int → Int → Int → Int → Int → Int → Int → Prop) : Prop := g_zae_e y0 y1 y2 y3 y4 y5 y6 y7 y8 y9 y10 y11 y12 y13 y14 y15 y16 y17 a1_X a1_Y a1_W a1_H qab qac qx qw qy qz qaa qv a3 Q
def M_zak : Nat → Nat → Nat → Canon UU := fun o b r => cond (Nat.beq b 0) ⟨[2, 13, 14, 15], [], [(.tmp 13, 26, .int)], [], []⟩ (⟨[], [], [], [], []⟩)
def st_zak_0 (t2 : Bool) (t14 t15 : Int) (l26 : List Int) : ASt UU := ⟨fun u => cond (Nat.beq u 2) (.bool t2) (cond (Nat.beq u 13) (.osl 26 0) (cond (Nat.beq u 14) (.int .i64 t14) (cond (Nat.beq u 15) (.int .i64 t15) (.any)))), fun u => cond (Nat.beq u 26) (some (.row .int 0 l26)) (none)⟩
def g_zak_e (qf qe qh qg : Int) (Q : Bool → Prop) (i0 : Bool → Int → Int → List Int → Prop) : Prop := (let v0 := (([qf, qe, qh, qg]).length : Int); i0 false v0 0 ([qf, qe, qh, qg]))
def g_zak_s0 (rec : Bool → Int → Int → List Int → Prop) (x0 : Bool → Int → Int → List Int → Prop) (x1 : Bool → Int → Int → List Int → Prop) (t2 : Bool) (t14 t15 : Int) (l26 : List Int) : Prop := cond (decide (t15 < t14)) (((0 ≤ t15 ∧ t15 < l26.length) ∧ cond ((decide ((l26.getD t15.toNat default) < (-1048576))) || (decide (1048576 < (l26.getD t15.toNat default)))) (x0 false t14 t15 l26) (rec t2 t14 (w64 (t15 + 1)) l26))) (x1 t2 t14 t15 l26)
def g_zak_c0_0 (Q : Bool → Prop) (t2 : Bool) (t14 t15 : Int) (l26 : List Int) : Prop := Q t2
def g_zak_c0_1 (Q : Bool → Prop) (t2 : Bool) (t14 t15 : Int) (l26 : List Int) : Prop := Q true
def w_zak_0 (F : Nat) (x0 : Bool → Int → Int → List Int → Prop) (x1 : Bool → Int → Int → List Int → Prop) : Nat → Bool → Int → Int → List Int → Prop
  | 0, _, _, _, _ => False
  | n + 1, t2, t14, t15, l26 => g_zak_s0 (w_zak_0 F x0 x1 n) x0 x1 t2 t14 t15 l26
def n_zak_0 (F : Nat) (Q : Bool → Prop) (t2 : Bool) (t14 t15 : Int) (l26 : List Int) : Prop := w_zak_0 F (fun t2 t14 t15 l26 => g_zak_c0_0 Q t2 t14 t15 l26) (fun t2 t14 t15 l26 => g_zak_c0_1 Q t2 t14 t15 l26) F t2 t14 t15 l26
def w_zak (F : Nat) (qf qe qh qg : Int) (Q : Bool → Prop) : Prop := g_zak_e qf qe qh qg Q (n_zak_0 F Q)
def M_zn : Nat → Nat → Nat → Canon UU := fun o b r => cond (Nat.beq b 0) ⟨[0, 2, 3], [], [], [], []⟩ (⟨[], [], [], [], []⟩)
def st_zn_0 (t0 : List Rect) (t2 t3 : Int) : ASt UU := ⟨fun u => cond (Nat.beq u 0) (.sl .rect t0) (cond (Nat.beq u 2) (.int .i64 t2) (cond (Nat.beq u 3) (.int .i64 t3) (.any))), fun u => none⟩
def g_zn_e (a0 : List Rect) (Q : Int → Prop) (i0 : List Rect → Int → Int → Prop) : Prop := cond (decide (48 < (a0.length : Int))) (Q 4) (i0 a0 0 0)
def g_zn_s0 (rec : List Rect → Int → Int → Prop) (x0 : List Rect → Int → Int → Prop) (x1 : List Rect → Int → Int → Prop) (t0 : List Rect) (t2 t3 : Int) : Prop := cond (decide (t3 < (t0.length : Int))) ((let e0 := (t0.getD t3.toNat default); ((0 ≤ t3 ∧ t3 < t0.length) ∧ cond (!(sp_zp e0.X e0.Y e0.W e0.H)) (x0 t0 1 t3) (rec t0 t2 (w64 (t3 + 1)))))) (x1 t0 t2 t3)
def g_zn_c0_0 (Q : Int → Prop) (t0 : List Rect) (t2 t3 : Int) : Prop := Q t2
def g_zn_c0_1 (Q : Int → Prop) (t0 : List Rect) (t2 t3 : Int) : Prop := Q 0
def w_zn_0 (F : Nat) (x0 : List Rect → Int → Int → Prop) (x1 : List Rect → Int → Int → Prop) : Nat → List Rect → Int → Int → Prop
  | 0, _, _, _ => False
  | n + 1, t0, t2, t3 => g_zn_s0 (w_zn_0 F x0 x1 n) x0 x1 t0 t2 t3
def n_zn_0 (F : Nat) (Q : Int → Prop) (t0 : List Rect) (t2 t3 : Int) : Prop := w_zn_0 F (fun t0 t2 t3 => g_zn_c0_0 Q t0 t2 t3) (fun t0 t2 t3 => g_zn_c0_1 Q t0 t2 t3) F t0 t2 t3
def w_zn (F : Nat) (a0 : List Rect) (Q : Int → Prop) : Prop := g_zn_e a0 Q (n_zn_0 F Q)
def M_zbd : Nat → Nat → Nat → Canon UU := fun o b r => cond (Nat.beq b 0) ⟨[2, 3, 12, 13, 14], [2, 3], [], [], []⟩ (⟨[], [], [], [], []⟩)
def st_zbd_0 (t12 : List Rect) (t13 t14 c2_0 c2_1 c2_2 c2_3 c3_0 c3_1 c3_2 c3_3 : Int) : ASt UU := ⟨fun u => cond (Nat.beq u 2) (.ptr 2 0) (cond (Nat.beq u 3) (.ptr 3 0) (cond (Nat.beq u 12) (.sl .rect t12) (cond (Nat.beq u 13) (.int .i64 t13) (cond (Nat.beq u 14) (.int .i64 t14) (.any))))), fun u => cond (Nat.beq u 2) (some (.cells [.int .i64 c2_0, .int .i64 c2_1, .int .i64 c2_2, .int .i64 c2_3])) (cond (Nat.beq u 3) (some (.cells [.int .i64 c3_0, .int .i64 c3_1, .int .i64 c3_2, .int .i64 c3_3])) (none))⟩
def g_zbd_e (a0 : List Rect) (Q : Int → Int → Int → Int → Prop) (i0 : List Rect → Int → Int → Int → Int → Int → Int → Int → Int → Int → Int → Prop) : Prop := (let e0 := (a0.getD 0 default); ((0 ≤ (0 : Int) ∧ (0 : Int) < a0.length) ∧ ((0 ≤ (1 : Int) ∧ (1 : Int) ≤ a0.length) ∧ i0 (a0.drop 1) ((a0.drop 1).length : Int) 0 0 0 0 0 e0.X e0.Y e0.W e0.H)))
def g_zbd_s0 (rec : List Rect → Int → Int → Int → Int → Int → Int → Int → Int → Int → Int → Prop) (x0 : List Rect → Int → Int → Int → Int → Int → Int → Int → Int → Int → Int → Prop) (t12 : List Rect) (t13 t14 c2_0 c2_1 c2_2 c2_3 c3_0 c3_1 c3_2 c3_3 : Int) : Prop := cond (decide (t14 < t13)) ((let e0 := (t12.getD t14.toNat default); ((0 ≤ t14 ∧ t14 < t12.length) ∧ (let v1 := w64 ((ma (w64 (c3_0 + c3_2)) (w64 (e0.X + e0.W))) - (mi c3_0 e0.X)); (let v2 := w64 ((ma (w64 (c3_1 + c3_3)) (w64 (e0.Y + e0.H))) - (mi c3_1 e0.Y)); rec t12 t13 (w64 (t14 + 1)) c2_0 c2_1 c2_2 c2_3 (mi c3_0 e0.X) (mi c3_1 e0.Y) v1 v2))))) (x0 t12 t13 t14 c2_0 c2_1 c2_2 c2_3 c3_0 c3_1 c3_2 c3_3)
def g_zbd_c0_0 (Q : Int → Int → Int → Int → Prop) (t12 : List Rect) (t13 t14 c2_0 c2_1 c2_2 c2_3 c3_0 c3_1 c3_2 c3_3 : Int) : Prop := Q c3_0 c3_1 c3_2 c3_3
def w_zbd_0 (F : Nat) (x0 : List Rect → Int → Int → Int → Int → Int → Int → Int → Int → Int → Int → Prop) : Nat → List Rect → Int → Int → Int → Int → Int → Int → Int → Int → Int → Int → Prop
  | 0, _, _, _, _, _, _, _, _, _, _, _ => False
  | n + 1, t12, t13, t14, c2_0, c2_1, c2_2, c2_3, c3_0, c3_1, c3_2, c3_3 => g_zbd_s0 (w_zbd_0 F x0 n) x0 t12 t13 t14 c2_0 c2_1 c2_2 c2_3 c3_0 c3_1 c3_2 c3_3
def n_zbd_0 (F : Nat) (Q : Int → Int → Int → Int → Prop) (t12 : List Rect) (t13 t14 c2_0 c2_1 c2_2 c2_3 c3_0 c3_1 c3_2 c3_3 : Int) : Prop := w_zbd_0 F (fun t12 t13 t14 c2_0 c2_1 c2_2 c2_3 c3_0 c3_1 c3_2 c3_3 => g_zbd_c0_0 Q t12 t13 t14 c2_0 c2_1 c2_2 c2_3 c3_0 c3_1 c3_2 c3_3) F t12 t13 t14 c2_0 c2_1 c2_2 c2_3 c3_0 c3_1 c3_2 c3_3
def w_zbd (F : Nat) (a0 : List Rect) (Q : Int → Int → Int → Int → Prop) : Prop := g_zbd_e a0 Q (n_zbd_0 F Q)
def M_zaj : Nat → Nat → Nat → Canon UU := fun o b r => cond (Nat.beq b 0) ⟨[0, 2, 3, 4, 5, 6, 7], [2], [], [], []⟩ (⟨[], [], [], [], []⟩)
def st_zaj_0 (t0 : List Rect) (t3 t4 t5 t6 t7 c2_0 c2_1 c2_2 c2_3 : Int) : ASt UU := ⟨fun u => cond (Nat.beq u 0) (.sl .rect t0) (cond (Nat.beq u 2) (.ptr 2 0) (cond (Nat.beq u 3) (.int .i64 t3) (cond (Nat.beq u 4) (.int .i64 t4) (cond (Nat.beq u 5) (.int .i64 t5) (cond (Nat.beq u 6) (.int .i64 t6) (cond (Nat.beq u 7) (.int .i64 t7) (.any))))))), fun u => cond (Nat.beq u 2) (some (.cells [.int .i64 c2_0, .int .i64 c2_1, .int .i64 c2_2, .int .i64 c2_3])) (none)⟩
def g_zaj_e (a0 : List Rect) (Q : Int → Int → Int → Int → Prop) (i0 : List Rect → Int → Int → Int → Int → Int → Int → Int → Int → Int → Prop) : Prop := (let e0 := (a0.getD 0 default); ((0 ≤ (0 : Int) ∧ (0 : Int) < a0.length) ∧ (let e1 := (a0.getD 0 default); ((0 ≤ (0 : Int) ∧ (0 : Int) < a0.length) ∧ (let e2 := (a0.getD 0 default); ((0 ≤ (0 : Int) ∧ (0 : Int) < a0.length) ∧ (let e3 := (a0.getD 0 default); ((0 ≤ (0 : Int) ∧ (0 : Int) < a0.length) ∧ (let e4 := (a0.getD 0 default); ((0 ≤ (0 : Int) ∧ (0 : Int) < a0.length) ∧ (let e5 := (a0.getD 0 default); ((0 ≤ (0 : Int) ∧ (0 : Int) < a0.length) ∧ i0 a0 e0.X e1.Y (w64 (e2.X + e3.W)) (w64 (e4.Y + e5.H)) 1 0 0 0 0))))))))))))
def g_zaj_s0 (rec : List Rect → Int → Int → Int → Int → Int → Int → Int → Int → Int → Prop) (x0 : List Rect → Int → Int → Int → Int → Int → Int → Int → Int → Int → Prop) (t0 : List Rect) (t3 t4 t5 t6 t7 c2_0 c2_1 c2_2 c2_3 : Int) : Prop := cond (decide (t7 < (t0.length : Int))) ((let e0 := (t0.getD t7.toNat default); ((0 ≤ t7 ∧ t7 < t0.length) ∧ cond (decide (e0.X < t3)) (cond (decide (e0.Y < t4)) (cond (decide (t5 < (w64 (e0.X + e0.W)))) (cond (decide (t6 < (w64 (e0.Y + e0.H)))) (rec t0 e0.X e0.Y (w64 (e0.X + e0.W)) (w64 (e0.Y + e0.H)) (w64 (t7 + 1)) c2_0 c2_1 c2_2 c2_3) (rec t0 e0.X e0.Y (w64 (e0.X + e0.W)) t6 (w64 (t7 + 1)) c2_0 c2_1 c2_2 c2_3)) (cond (decide (t6 < (w64 (e0.Y + e0.H)))) (rec t0 e0.X e0.Y t5 (w64 (e0.Y + e0.H)) (w64 (t7 + 1)) c2_0 c2_1 c2_2 c2_3) (rec t0 e0.X e0.Y t5 t6 (w64 (t7 + 1)) c2_0 c2_1 c2_2 c2_3))) (cond (decide (t5 < (w64 (e0.X + e0.W)))) (cond (decide (t6 < (w64 (e0.Y + e0.H)))) (rec t0 e0.X t4 (w64 (e0.X + e0.W)) (w64 (e0.Y + e0.H)) (w64 (t7 + 1)) c2_0 c2_1 c2_2 c2_3) (rec t0 e0.X t4 (w64 (e0.X + e0.W)) t6 (w64 (t7 + 1)) c2_0 c2_1 c2_2 c2_3)) (cond (decide (t6 < (w64 (e0.Y + e0.H)))) (rec t0 e0.X t4 t5 (w64 (e0.Y + e0.H)) (w64 (t7 + 1)) c2_0 c2_1 c2_2 c2_3) (rec t0 e0.X t4 t5 t6 (w64 (t7 + 1)) c2_0 c2_1 c2_2 c2_3)))) (cond (decide (e0.Y < t4)) (cond (decide (t5 < (w64 (e0.X + e0.W)))) (cond (decide (t6 < (w64 (e0.Y + e0.H)))) (rec t0 t3 e0.Y (w64 (e0.X + e0.W)) (w64 (e0.Y + e0.H)) (w64 (t7 + 1)) c2_0 c2_1 c2_2 c2_3) (rec t0 t3 e0.Y (w64 (e0.X + e0.W)) t6 (w64 (t7 + 1)) c2_0 c2_1 c2_2 c2_3)) (cond (decide (t6 < (w64 (e0.Y + e0.H)))) (rec t0 t3 e0.Y t5 (w64 (e0.Y + e0.H)) (w64 (t7 + 1)) c2_0 c2_1 c2_2 c2_3) (rec t0 t3 e0.Y t5 t6 (w64 (t7 + 1)) c2_0 c2_1 c2_2 c2_3))) (cond (decide (t5 < (w64 (e0.X + e0.W)))) (cond (decide (t6 < (w64 (e0.Y + e0.H)))) (rec t0 t3 t4 (w64 (e0.X + e0.W)) (w64 (e0.Y + e0.H)) (w64 (t7 + 1)) c2_0 c2_1 c2_2 c2_3) (rec t0 t3 t4 (w64 (e0.X + e0.W)) t6 (w64 (t7 + 1)) c2_0 c2_1 c2_2 c2_3)) (cond (decide (t6 < (w64 (e0.Y + e0.H)))) (rec t0 t3 t4 t5 (w64 (e0.Y + e0.H)) (w64 (t7 + 1)) c2_0 c2_1 c2_2 c2_3) (rec t0 t3 t4 t5 t6 (w64 (t7 + 1)) c2_0 c2_1 c2_2 c2_3))))))) (x0 t0 t3 t4 t5 t6 t7 c2_0 c2_1 c2_2 c2_3)
def g_zaj_c0_0 (Q : Int → Int → Int → Int → Prop) (t0 : List Rect) (t3 t4 t5 t6 t7 c2_0 c2_1 c2_2 c2_3 : Int) : Prop := Q t3 t4 (w64 (t5 - t3)) (w64 (t6 - t4))
def w_zaj_0 (F : Nat) (x0 : List Rect → Int → Int → Int → Int → Int → Int → Int → Int → Int → Prop) : Nat → List Rect → Int → Int → Int → Int → Int → Int → Int → Int → Int → Prop
  | 0, _, _, _, _, _, _, _, _, _, _ => False
  | n + 1, t0, t3, t4, t5, t6, t7, c2_0, c2_1, c2_2, c2_3 => g_zaj_s0 (w_zaj_0 F x0 n) x0 t0 t3 t4 t5 t6 t7 c2_0 c2_1 c2_2 c2_3
def n_zaj_0 (F : Nat) (Q : Int → Int → Int → Int → Prop) (t0 : List Rect) (t3 t4 t5 t6 t7 c2_0 c2_1 c2_2 c2_3 : Int) : Prop := w_zaj_0 F (fun t0 t3 t4 t5 t6 t7 c2_0 c2_1 c2_2 c2_3 => g_zaj_c0_0 Q t0 t3 t4 t5 t6 t7 c2_0 c2_1 c2_2 c2_3) F t0 t3 t4 t5 t6 t7 c2_0 c2_1 c2_2 c2_3
def w_zaj (F : Nat) (a0 : List Rect) (Q : Int → Int → Int → Int → Prop) : Prop := g_zaj_e a0 Q (n_zaj_0 F Q)
def M_zbv : Nat → Nat → Nat → Canon UU := fun o b r => cond (Nat.beq b 0) ⟨[0, 1, 4, 7, 8], [], [], [], []⟩ (⟨[], [], [], [], []⟩)
def st_zbv_0 (t0 : List Int) (t1 t4 t7 t8 : Int) : ASt UU := ⟨fun u => cond (Nat.beq u 0) (.sl .int t0) (cond (Nat.beq u 1) (.int .i64 t1) (cond (Nat.beq u 4) (.int .i64 t4) (cond (Nat.beq u 7) (.int .i64 t7) (cond (Nat.beq u 8) (.int .i64 t8) (.any))))), fun u => none⟩
def g_zbv_e (a0 : List Int) (a1 : Int) (Q : Int → Prop) (i0 : List Int → Int → Int → Int → Int → Prop) : Prop := i0 a0 a1 0 (a0.length : Int) 0
def g_zbv_s0 (rec : List Int → Int → Int → Int → Int → Prop) (x0 : List Int → Int → Int → Int → Int → Prop) (x1 : List Int → Int → Int → Int → Int → Prop) (t0 : List Int) (t1 t4 t7 t8 : Int) : Prop := cond (decide (t8 < t7)) ((let e0 := (t0.getD t8.toNat default); ((0 ≤ t8 ∧ t8 < t0.length) ∧ cond (t1 == e0) (x0 t0 t1 t8 t7 t8) (rec t0 t1 t4 t7 (w64 (t8 + 1)))))) (x1 t0 t1 t4 t7 t8)
def g_zbv_c0_0 (Q : Int → Prop) (t0 : List Int) (t1 t4 t7 t8 : Int) : Prop := Q t4
def g_zbv_c0_1 (Q : Int → Prop) (t0 : List Int) (t1 t4 t7 t8 : Int) : Prop := Q (-1)
def w_zbv_0 (F : Nat) (x0 : List Int → Int → Int → Int → Int → Prop) (x1 : List Int → Int → Int → Int → Int → Prop) : Nat → List Int → Int → Int → Int → Int → Prop
  | 0, _, _, _, _, _ => False
  | n + 1, t0, t1, t4, t7, t8 => g_zbv_s0 (w_zbv_0 F x0 x1 n) x0 x1 t0 t1 t4 t7 t8
def n_zbv_0 (F : Nat) (Q : Int → Prop) (t0 : List Int) (t1 t4 t7 t8 : Int) : Prop := w_zbv_0 F (fun t0 t1 t4 t7 t8 => g_zbv_c0_0 Q t0 t1 t4 t7 t8) (fun t0 t1 t4 t7 t8 => g_zbv_c0_1 Q t0 t1 t4 t7 t8) F t0 t1 t4 t7 t8
def w_zbv (F : Nat) (a0 : List Int) (a1 : Int) (Q : Int → Prop) : Prop := g_zbv_e a0 a1 Q (n_zbv_0 F Q)
end
end Go.Proofs.YteffpgliiilnjaaGreatDoor
namespace Go.Proofs.YteffpgliiilnjaaGreatDoor
open Go.Vm Go.RowKit
set_option linter.unusedVariables false
noncomputable section
theorem w64_s {i n : Nat} (h : i < n) (hn : (n : Int) ≤ 9223372036854775807) : w64 ((i : Int) + 1) = ((i + 1 : Nat) : Int) := by
  rw [w64_of (by omega) (by omega)]
  rfl
def sI {α : Type} (l : List α) : Prop := (l.length : Int) ≤ 9223372036854775807
def shR {α : Type} (l : List α) : Prop := l.length ≤ 1000
theorem all_loopS {α : Type} [Inhabited α] (l : List α) (p : α → Bool) (hl : sI l) (W : Nat → Int → Prop) (X Y : Int → Prop)
    (hs : ∀ n i, W (n + 1) i = cond (decide (i < (l.length : Int))) ((0 ≤ i ∧ i < (l.length : Int)) ∧ cond (!(p (l.getD i.toNat default))) (X i) (W n (w64 (i + 1)))) (Y i)) : ∀ (n i : Nat), i ≤ l.length → l.length < n + i →
    ((l.drop i).all p = false → ∀ j, X j) → ((l.drop i).all p = true → Y l.length) → W n i := by
  intro n
  induction n with
  | zero => intro i h1 h2; omega
  | succ n ih =>
    intro i h1 h2 hX hY
    rw [hs]
    by_cases h : i < l.length
    · rw [dec_t (show (i : Int) < l.length by omega), cond_true]
      refine ⟨⟨by omega, by omega⟩, ?_⟩
      rw [drop_getD l i h, List.all_cons] at hX hY
      rw [Int.toNat_natCast, w64_s h hl]
      cases hp : p (l.getD i default) with
      | false =>
        rw [hp] at hX
        exact hX rfl _
      | true =>
        rw [hp, Bool.true_and] at hX hY
        exact ih (i + 1) (by omega) (by omega) hX hY
    · have e : i = l.length := by omega
      subst e
      rw [dec_f (by omega), cond_false]
      exact hY (by rw [List.drop_length]; rfl)
theorem all_loopS0 {α : Type} [Inhabited α] (l : List α) (p : α → Bool) (hl : sI l) (W : Nat → Int → Prop) (X Y : Int → Prop)
    (hs : ∀ n i, W (n + 1) i = cond (decide (i < (l.length : Int))) ((0 ≤ i ∧ i < (l.length : Int)) ∧ cond (!(p (l.getD i.toNat default))) (X i) (W n (w64 (i + 1)))) (Y i)) (n : Nat) (hn : l.length < n)
    (hX : l.all p = false → ∀ j, X j) (hY : l.all p = true → Y l.length) : W n 0 :=
  all_loopS l p hl W X Y hs n 0 (by omega) (by omega) hX hY
def sp_zae (y0 y1 y2 y3 y4 y5 y6 y7 y8 y9 y10 y11 y12 y13 y14 y15 y16 y17 X Y W H fl pa lx ly mx my an de : Int) (bent : Bool) : Int × Int × Int × Int × Int × Int × Int × Int × Int × Int × Int × Int × Int × Int × Int × Int × Int × Int :=
  let o := sp_zq X Y W H lx ly mx my
  let s : Int × Int := cond (decide ((w64 (o.2.1 + (w64 (0 - o.1)))) < 0)) (mx, my) (lx, ly)
  let a := sp_zd y0 y1 y2 y3 y4 y5 y6 y7 y8 y9 y10 y11 y12 y13 y14 y15 y16 y17 s.1 s.2
  let p := sp_zc y0 y1 y2 y3 y4 y5 y6 y7 y8 y9 y10 y11 y12 y13 y14 y15 y16 y17 a.1 a.2
  let u := sp_zb y0 y1 y2 y3 y4 y5 y6 y7 y8 y9 y10 y11 y12 y13 y14 y15 y16 y17 o.2.1 (w64 (0 - o.1))
  let v := sp_zb y0 y1 y2 y3 y4 y5 y6 y7 y8 y9 y10 y11 y12 y13 y14 y15 y16 y17 o.1 o.2.1
  let n := sp_zax y0 y1 y2 y3 y4 y5 y6 y7 y8 y9 y10
  let q : Int × Int × Int := cond (!bent) v (cond (an == 90) n (cond (an == (-90)) (sp_zad n.1 n.2.1 n.2.2 (-1)) (sp_zad v.1 v.2.1 v.2.2 (-1))))
  (p.1, p.2.1, p.2.2, u.1, u.2.1, u.2.2, q.1, q.2.1, q.2.2, w64 ((w64 ((w64 (mx - lx)) + my)) - ly), w64 ((cond (o.1 == 0) H W) + de), s.1, s.2, o.2.1, w64 (0 - o.1), o.1, o.2.1, de)
theorem ok_zae (y0 y1 y2 y3 y4 y5 y6 y7 y8 y9 y10 y11 y12 y13 y14 y15 y16 y17 a1_X a1_Y a1_W a1_H qab qac qx qw qy qz qaa qv : Int) (a3 : Bool) : ∃ F, ∀ Q : Int → Int → Int → Int → Int → Int → Int → Int → Int → Int → Int → Int → Int → Int → Int → Int → Int → Int → Prop, Q ((sp_zae y0 y1 y2 y3 y4 y5 y6 y7 y8 y9 y10 y11 y12 y13 y14 y15 y16 y17 a1_X a1_Y a1_W a1_H qab qac qx qw qy qz qaa qv a3).1) ((sp_zae y0 y1 y2 y3 y4 y5 y6 y7 y8 y9 y10 y11 y12 y13 y14 y15 y16 y17 a1_X a1_Y a1_W a1_H qab qac qx qw qy qz qaa qv a3).2.1) ((sp_zae y0 y1 y2 y3 y4 y5 y6 y7 y8 y9 y10 y11 y12 y13 y14 y15 y16 y17 a1_X a1_Y a1_W a1_H qab qac qx qw qy qz qaa qv a3).2.2.1) ((sp_zae y0 y1 y2 y3 y4 y5 y6 y7 y8 y9 y10 y11 y12 y13 y14 y15 y16 y17 a1_X a1_Y a1_W a1_H qab qac qx qw qy qz qaa qv a3).2.2.2.1) ((sp_zae y0 y1 y2 y3 y4 y5 y6 y7 y8 y9 y10 y11 y12 y13 y14 y15 y16 y17 a1_X a1_Y a1_W a1_H qab qac qx qw qy qz qaa qv a3).2.2.2.2.1) ((sp_zae y0 y1 y2 y3 y4 y5 y6 y7 y8 y9 y10 y11 y12 y13 y14 y15 y16 y17 a1_X a1_Y a1_W a1_H qab qac qx qw qy qz qaa qv a3).2.2.2.2.2.1) ((sp_zae y0 y1 y2 y3 y4 y5 y6 y7 y8 y9 y10 y11 y12 y13 y14 y15 y16 y17 a1_X a1_Y a1_W a1_H qab qac qx qw qy qz qaa qv a3).2.2.2.2.2.2.1) ((sp_zae y0 y1 y2 y3 y4 y5 y6 y7 y8 y9 y10 y11 y12 y13 y14 y15 y16 y17 a1_X a1_Y a1_W a1_H qab qac qx qw qy qz qaa qv a3).2.2.2.2.2.2.2.1) ((sp_zae y0 y1 y2 y3 y4 y5 y6 y7 y8 y9 y10 y11 y12 y13 y14 y15 y16 y17 a1_X a1_Y a1_W a1_H qab qac qx qw qy qz qaa qv a3).2.2.2.2.2.2.2.2.1) ((sp_zae y0 y1 y2 y3 y4 y5 y6 y7 y8 y9 y10 y11 y12 y13 y14 y15 y16 y17 a1_X a1_Y a1_W a1_H qab qac qx qw qy qz qaa qv a3).2.2.2.2.2.2.2.2.2.1) ((sp_zae y0 y1 y2 y3 y4 y5 y6 y7 y8 y9 y10 y11 y12 y13 y14 y15 y16 y17 a1_X a1_Y a1_W a1_H qab qac qx qw qy qz qaa qv a3).2.2.2.2.2.2.2.2.2.2.1) ((sp_zae y0 y1 y2 y3 y4 y5 y6 y7 y8 y9 y10 y11 y12 y13 y14 y15 y16 y17 a1_X a1_Y a1_W a1_H qab qac qx qw qy qz qaa qv a3).2.2.2.2.2.2.2.2.2.2.2.1) ((sp_zae y0 y1 y2 y3 y4 y5 y6 y7 y8 y9 y10 y11 y12 y13 y14 y15 y16 y17 a1_X a1_Y a1_W a1_H qab qac qx qw qy qz qaa qv a3).2.2.2.2.2.2.2.2.2.2.2.2.1) ((sp_zae y0 y1 y2 y3 y4 y5 y6 y7 y8 y9 y10 y11 y12 y13 y14 y15 y16 y17 a1_X a1_Y a1_W a1_H qab qac qx qw qy qz qaa qv a3).2.2.2.2.2.2.2.2.2.2.2.2.2.1) ((sp_zae y0 y1 y2 y3 y4 y5 y6 y7 y8 y9 y10 y11 y12 y13 y14 y15 y16 y17 a1_X a1_Y a1_W a1_H qab qac qx qw qy qz qaa qv a3).2.2.2.2.2.2.2.2.2.2.2.2.2.2.1) ((sp_zae y0 y1 y2 y3 y4 y5 y6 y7 y8 y9 y10 y11 y12 y13 y14 y15 y16 y17 a1_X a1_Y a1_W a1_H qab qac qx qw qy qz qaa qv a3).2.2.2.2.2.2.2.2.2.2.2.2.2.2.2.1) ((sp_zae y0 y1 y2 y3 y4 y5 y6 y7 y8 y9 y10 y11 y12 y13 y14 y15 y16 y17 a1_X a1_Y a1_W a1_H qab qac qx qw qy qz qaa qv a3).2.2.2.2.2.2.2.2.2.2.2.2.2.2.2.2.1) ((sp_zae y0 y1 y2 y3 y4 y5 y6 y7 y8 y9 y10 y11 y12 y13 y14 y15 y16 y17 a1_X a1_Y a1_W a1_H qab qac qx qw qy qz qaa qv a3).2.2.2.2.2.2.2.2.2.2.2.2.2.2.2.2.2) → w_zae F y0 y1 y2 y3 y4 y5 y6 y7 y8 y9 y10 y11 y12 y13 y14 y15 y16 y17 a1_X a1_Y a1_W a1_H qab qac qx qw qy qz qaa qv a3 Q := by
  refine ⟨0, fun Q h => ?_⟩
  unfold w_zae g_zae_e
  unfold sp_zae at h
  revert h
  generalize sp_zq a1_X a1_Y a1_W a1_H qx qw qy qz = o
  dsimp only
  generalize decide ((w64 (o.2.1 + (w64 (0 - o.1)))) < 0) = b1
  generalize (o.1 == 0) = b2
  generalize (qaa == 90) = b3
  generalize (qaa == (-90)) = b4
  cases b1 <;> cases b2 <;> cases a3 <;> cases b3 <;> cases b4 <;> exact fun h => h
def rng (n : Int) : Bool := decide (-1048576 ≤ n) && decide (n ≤ 1048576)
theorem rng_bad (n : Int) : (decide (n < -1048576) || decide (1048576 < n)) = !rng n := by
  unfold rng
  rw [Bool.not_and, ← decide_not, ← decide_not]
  congr 1 <;> exact decide_eq_decide.2 (by omega)
def sp_zak (a b c d : Int) : Bool := rng a && (rng b && (rng c && rng d))
theorem ok_zak (qf qe qh qg : Int) : ∃ F, ∀ Q : Bool → Prop, Q (sp_zak qf qe qh qg) → w_zak F qf qe qh qg Q := by
  refine ⟨5, fun Q h => ?_⟩
  have e : sp_zak qf qe qh qg = [qf, qe, qh, qg].all rng := by
    simp [sp_zak]
  rw [e] at h
  show w_zak_0 5 _ _ 5 false 4 0 [qf, qe, qh, qg]
  refine all_loop0 [qf, qe, qh, qg] rng (by simp) (fun n i => w_zak_0 5 _ _ n false 4 i [qf, qe, qh, qg]) (fun j => g_zak_c0_0 Q false 4 j [qf, qe, qh, qg]) (fun j => g_zak_c0_1 Q false 4 j [qf, qe, qh, qg]) (fun n i => ?_) 5 (by simp) (fun q j => ?_) (fun q => ?_)
  · show cond _ _ _ = cond _ _ _
    rw [← rng_bad]
    rfl
  · rw [q] at h
    exact h
  · rw [q] at h
    exact h
def vR (r : Rect) : Bool := sp_zp r.X r.Y r.W r.H
def sp_zn (l : List Rect) : Int := bif decide (48 < l.length) then 4 else bif l.all vR then 0 else 1
theorem ok_zn (a0 : List Rect) : ∃ F, ∀ Q : Int → Prop, Q (sp_zn a0) → w_zn F a0 Q := by
  refine ⟨a0.length + 1, fun Q h => ?_⟩
  unfold w_zn g_zn_e
  unfold sp_zn at h
  by_cases hl : 48 < a0.length
  · rw [dec_t hl] at h
    rw [dec_t (by omega)]
    exact h
  · rw [dec_f hl] at h
    rw [dec_f (by omega)]
    refine all_loop0 a0 vR (by omega) (fun n i => w_zn_0 (a0.length + 1) _ _ n a0 0 i) _ _ (fun n i => rfl) (a0.length + 1) (by omega) (fun q j => ?_) (fun q => ?_)
    all_goals
      rw [q] at h
      exact h
def bnd : Int → Int → Int → Int → List Rect → Int × Int × Int × Int
  | a, b, c, d, [] => (a, b, c - a, d - b)
  | a, b, c, d, r :: l => bnd (min a r.X) (min b r.Y) (max c (r.X + r.W)) (max d (r.Y + r.H)) l
def bndL : List Rect → Int × Int × Int × Int
  | [] => (0, 0, 0, 0)
  | r :: l => bnd r.X r.Y (r.X + r.W) (r.Y + r.H) l
def pre_zbd (l : List Rect) : Prop := shR l ∧ l ≠ [] ∧ ∀ r ∈ l, vR r = true
def sp_zbd (l : List Rect) : Int × Int × Int × Int := bndL l
def pre_zaj (l : List Rect) : Prop := pre_zbd l
def sp_zaj (l : List Rect) : Int × Int × Int × Int := bndL l
theorem vR_iff (r : Rect) : vR r = true ↔ -1048576 ≤ r.X ∧ r.X ≤ 1048576 ∧ -1048576 ≤ r.Y ∧ r.Y ≤ 1048576 ∧ 1 ≤ r.W ∧ r.W ≤ 2097152 ∧ 1 ≤ r.H ∧ r.H ≤ 2097152 ∧ r.X + r.W ≤ 1048576 ∧ r.Y + r.H ≤ 1048576 := by
  unfold vR sp_zp sp_zas
  by_cases hx : -1048576 ≤ r.X ∧ r.X ≤ 1048576 ∧ -1048576 ≤ r.Y ∧ r.Y ≤ 1048576 ∧ 1 ≤ r.W ∧ r.W ≤ 2097152 ∧ 1 ≤ r.H ∧ r.H ≤ 2097152
  · obtain ⟨h1, h2, h3, h4, h5, h6, h7, h8⟩ := hx
    rw [w64_of (by omega) (by omega), w64_of (by omega) (by omega)]
    simp [h1, h2, h3, h4, h5, h6, h7, h8]
  · constructor
    · intro h
      exfalso
      apply hx
      revert h
      simp only [cond_eq_ite, Bool.or_eq_true, Bool.not_eq_true', Bool.and_eq_false_iff, decide_eq_false_iff_not]
      split
      · intro h; cases h
      · rename_i h
        intro _
        omega
    · intro h
      exact absurd ⟨h.1, h.2.1, h.2.2.1, h.2.2.2.1, h.2.2.2.2.1, h.2.2.2.2.2.1, h.2.2.2.2.2.2.1, h.2.2.2.2.2.2.2.1⟩ hx
def box (a b c d : Int) : Prop := -1048576 ≤ a ∧ a ≤ c ∧ c ≤ 1048576 ∧ -1048576 ≤ b ∧ b ≤ d ∧ d ≤ 1048576
theorem box_next {a b c d : Int} {r : Rect} (h : box a b c d) (hr : vR r = true) : box (min a r.X) (min b r.Y) (max c (r.X + r.W)) (max d (r.Y + r.H)) := by
  have := (vR_iff r).1 hr
  unfold box at *
  omega
theorem mi_min (a b : Int) : mi a b = min a b := by unfold mi; split <;> omega
theorem ma_max (a b : Int) : ma a b = max a b := by unfold ma; split <;> omega
theorem lp_zbd (F : Nat) (x0 : List Rect → Int → Int → Int → Int → Int → Int → Int → Int → Int → Int → Prop) (l : List Rect) (p q s t : Int) (hl : shR l) (hv : ∀ r ∈ l, vR r = true) :
    ∀ (n i : Nat) (a b c d : Int), box a b c d → i ≤ l.length → l.length < i + n →
    x0 l l.length l.length p q s t (bnd a b c d (l.drop i)).1 (bnd a b c d (l.drop i)).2.1 (bnd a b c d (l.drop i)).2.2.1 (bnd a b c d (l.drop i)).2.2.2 → w_zbd_0 F x0 n l l.length i p q s t a b (c - a) (d - b) := by
  intro n
  induction n with
  | zero => intro i a b c d hb h1 h2; omega
  | succ n ih =>
    intro i a b c d hb h1 h2 e
    show g_zbd_s0 (w_zbd_0 F x0 n) x0 l l.length i p q s t a b (c - a) (d - b)
    unfold g_zbd_s0
    by_cases h : i < l.length
    · rw [dec_t (by omega), cond_true, Int.toNat_natCast]
      rw [drop_getD l i h] at e
      have hm : l.getD i default ∈ l := by simp [List.getD, h]
      have hr := hv _ hm
      have hr' := (vR_iff _).1 hr
      have hb' := box_next hb hr
      revert hr' hb' e
      generalize l.getD i default = r
      intro e hr' hb'
      refine ⟨by omega, ?_⟩
      simp only [mi_min, ma_max]
      have hc : a + (c - a) = c := by omega
      have hd : b + (d - b) = d := by omega
      rw [hc, hd]
      unfold box at hb
      rw [w64_of (n := c) (by omega) (by omega), w64_of (n := d) (by omega) (by omega), w64_of (n := r.X + r.W) (by omega) (by omega), w64_of (n := r.Y + r.H) (by omega) (by omega)]
      unfold box at hb'
      rw [w64_of (n := max c (r.X + r.W) - min a r.X) (by omega) (by omega), w64_of (n := max d (r.Y + r.H) - min b r.Y) (by omega) (by omega)]
      rw [w64_succ h (by unfold shR at hl; omega)]
      exact ih _ _ _ _ _ (by unfold box; omega) (by omega) (by omega) e
    · rw [dec_f (by omega), cond_false]
      have : i = l.length := by omega
      subst this
      rw [List.drop_length] at e
      exact e
theorem vR_box {r : Rect} (h : vR r = true) : box r.X r.Y (r.X + r.W) (r.Y + r.H) := by
  have := (vR_iff r).1 h
  unfold box
  omega
theorem ok_zbd (a0 : List Rect) (h : pre_zbd a0) : ∃ F, ∀ Q : Int → Int → Int → Int → Prop, Q ((sp_zbd a0).1) ((sp_zbd a0).2.1) ((sp_zbd a0).2.2.1) ((sp_zbd a0).2.2.2) → w_zbd F a0 Q := by
  refine ⟨a0.length + 1, fun Q hQ => ?_⟩
  obtain ⟨hs, hn, hv⟩ := h
  cases a0 with
  | nil => exact absurd rfl hn
  | cons r l =>
    unfold w_zbd g_zbd_e n_zbd_0
    refine ⟨⟨by omega, by simp only [List.length_cons]; omega⟩, ⟨by omega, by simp only [List.length_cons]; omega⟩, ?_⟩
    have hr := hv r (List.mem_cons_self ..)
    have := lp_zbd ((r :: l).length + 1) (fun t12 t13 t14 c2_0 c2_1 c2_2 c2_3 c3_0 c3_1 c3_2 c3_3 => g_zbd_c0_0 Q t12 t13 t14 c2_0 c2_1 c2_2 c2_3 c3_0 c3_1 c3_2 c3_3) l 0 0 0 0 (by unfold shR at *; simp only [List.length_cons] at hs; omega) (fun x hx => hv x (List.mem_cons_of_mem _ hx)) ((r :: l).length + 1) 0 r.X r.Y (r.X + r.W) (r.Y + r.H) (vR_box hr) (by omega) (by simp only [List.length_cons]; omega) (by rw [List.drop_zero]; exact hQ)
    have e1 : r.X + r.W - r.X = r.W := by omega
    have e2 : r.Y + r.H - r.Y = r.H := by omega
    rw [e1, e2] at this
    exact this
theorem lp_zaj (F : Nat) (x0 : List Rect → Int → Int → Int → Int → Int → Int → Int → Int → Int → Prop) (l : List Rect) (p q s t : Int) (hl : shR l) (hv : ∀ r ∈ l, vR r = true) :
    ∀ (n i : Nat) (a b c d : Int), i ≤ l.length → l.length < i + n →
    (∀ a' b' c' d', bnd a b c d (l.drop i) = (a', b', c' - a', d' - b') → box a' b' c' d' → x0 l a' b' c' d' l.length p q s t) → box a b c d → w_zaj_0 F x0 n l a b c d i p q s t := by
  intro n
  induction n with
  | zero => intro i a b c d h1 h2; omega
  | succ n ih =>
    intro i a b c d h1 h2 e hb
    show g_zaj_s0 (w_zaj_0 F x0 n) x0 l a b c d i p q s t
    unfold g_zaj_s0
    by_cases h : i < l.length
    · rw [dec_t (by omega), cond_true, Int.toNat_natCast]
      rw [drop_getD l i h] at e
      have hm : l.getD i default ∈ l := by simp [List.getD, h]
      have hr := hv _ hm
      have hr' := (vR_iff _).1 hr
      have hb' := box_next hb hr
      revert hr' hb' e
      generalize l.getD i default = r
      intro e hr' hb'
      refine ⟨by omega, ?_⟩
      rw [w64_of (n := r.X + r.W) (by omega) (by omega), w64_of (n := r.Y + r.H) (by omega) (by omega)]
      rw [w64_succ h (by unfold shR at hl; omega)]
      have key := ih (i + 1) (min a r.X) (min b r.Y) (max c (r.X + r.W)) (max d (r.Y + r.H)) (by omega) (by omega) e hb'
      by_cases k1 : r.X < a <;> by_cases k2 : r.Y < b <;> by_cases k3 : c < r.X + r.W <;> by_cases k4 : d < r.Y + r.H
      all_goals
        simp only [k1, k2, k3, k4, decide_true, decide_false, cond_true, cond_false]
        first
          | rw [show min a r.X = r.X by omega] at key
          | rw [show min a r.X = a by omega] at key
        first
          | rw [show min b r.Y = r.Y by omega] at key
          | rw [show min b r.Y = b by omega] at key
        first
          | rw [show max c (r.X + r.W) = r.X + r.W by omega] at key
          | rw [show max c (r.X + r.W) = c by omega] at key
        first
          | rw [show max d (r.Y + r.H) = r.Y + r.H by omega] at key
          | rw [show max d (r.Y + r.H) = d by omega] at key
        exact key
    · rw [dec_f (by omega), cond_false]
      have : i = l.length := by omega
      subst this
      rw [List.drop_length] at e
      exact e a b c d rfl hb
theorem ok_zaj (a0 : List Rect) (h : pre_zaj a0) : ∃ F, ∀ Q : Int → Int → Int → Int → Prop, Q ((sp_zaj a0).1) ((sp_zaj a0).2.1) ((sp_zaj a0).2.2.1) ((sp_zaj a0).2.2.2) → w_zaj F a0 Q := by
  refine ⟨a0.length + 1, fun Q hQ => ?_⟩
  obtain ⟨hs, hn, hv⟩ := h
  cases a0 with
  | nil => exact absurd rfl hn
  | cons r l =>
    unfold w_zaj g_zaj_e n_zaj_0
    have hr := hv r (List.mem_cons_self ..)
    have hr' := (vR_iff _).1 hr
    have h0 : (0 : Int) ≤ 0 ∧ (0 : Int) < (r :: l).length := ⟨by omega, by simp only [List.length_cons]; omega⟩
    refine ⟨h0, h0, h0, h0, h0, h0, ?_⟩
    show w_zaj_0 _ _ _ _ r.X r.Y (w64 (r.X + r.W)) (w64 (r.Y + r.H)) 1 0 0 0 0
    rw [w64_of (n := r.X + r.W) (by omega) (by omega), w64_of (n := r.Y + r.H) (by omega) (by omega)]
    refine lp_zaj _ _ (r :: l) 0 0 0 0 hs hv _ 1 _ _ _ _ (by simp) (by omega) (fun a' b' c' d' e hb => ?_) (vR_box hr)
    show Q a' b' (w64 (c' - a')) (w64 (d' - b'))
    unfold box at hb
    rw [w64_of (n := c' - a') (by omega) (by omega), w64_of (n := d' - b') (by omega) (by omega)]
    have : sp_zaj (r :: l) = (a', b', c' - a', d' - b') := e
    rw [this] at hQ
    exact hQ
def pre_zbv (l : List Int) (x : Int) : Prop := l.length ≤ 1000000
def sp_zbv (l : List Int) (x : Int) : Int := idxI (fun y => x == y) l 0
theorem ok_zbv (a0 : List Int) (a1 : Int) (h : pre_zbv a0 a1) : ∃ F, ∀ Q : Int → Prop, Q (sp_zbv a0 a1) → w_zbv F a0 a1 Q := by
  refine ⟨a0.length + 1, fun Q hQ => ?_⟩
  have key : ∀ (n i : Nat) (t4 : Int), i ≤ a0.length → a0.length < n + i → Q (idxI (fun y => a1 == y) (a0.drop i) i) → w_zbv_0 (a0.length + 1) (fun t0 t1 t4 t7 t8 => g_zbv_c0_0 Q t0 t1 t4 t7 t8) (fun t0 t1 t4 t7 t8 => g_zbv_c0_1 Q t0 t1 t4 t7 t8) n a0 a1 t4 a0.length i :=
    fun n i t4 => idx_loop a0 (fun y => a1 == y) h Q (fun n i => w_zbv_0 (a0.length + 1) (fun t0 t1 t4 t7 t8 => g_zbv_c0_0 Q t0 t1 t4 t7 t8) (fun t0 t1 t4 t7 t8 => g_zbv_c0_1 Q t0 t1 t4 t7 t8) n a0 a1 t4 a0.length i) (fun n i => rfl) n i
  exact key (a0.length + 1) 0 0 (by omega) (by omega) hQ
end
end Go.Proofs.YteffpgliiilnjaaGreatDoor
namespace Go.Proofs.YteffpgliiilnjaaGreatDoor
open Go.Vm Go.ChangeShapes Go.WideShapes Go.ChangeAt Go.RowKit Go.Joins
set_option linter.unusedVariables false
set_option maxRecDepth 100000
noncomputable section
theorem bend_all (ns : List Int) (h : ns.length = UU.size .bend) : ∃ z : UU.T .bend, EE.enc .bend z = ns.map (AVal.int .i64) := by
  match ns, h with
  | [a, b, c, d, e, f, g, i], _ => exact ⟨Bend.mk a b c d e f g i, rfl⟩
theorem opens_bend {H : Type} {enc : TypeId × Value → H} {W : World} : Opens C_base enc W 174 .bend := opens_ints 5 (by kernel_rfl) (by kernel_rfl) (by kernel_rfl) (by kernel_rfl) bend_all
theorem fits_sliceB {t e : TypeId} {τ : Knd} {a : AVal UU} (hu : Tryz.prog.underlying t = some (.slice e)) (he : C_base.elt e = some τ) (h : Fits C_base t a) : ∃ xs : List (UU.T τ), a = .sl τ xs ∧ sI xs := by
  unfold Fits at h
  rw [show C_base.P.underlying t = _ from hu] at h
  obtain ⟨τ', xs, h1, h2, h3⟩ := h
  rw [he] at h1
  cases h1
  exact ⟨xs, h2, h3⟩
theorem cells_int {P : Program} {W : World} {b0 : Nat} {t : TypeId} {v : Value} {k : IntKind} (hu : P.underlying t = some (.int k)) (hok : Value.okWide P W .any b0 t v) : v.cells = #[v] := by
  unfold Value.okWide at hok
  rw [hu] at hok
  simp only at hok
  unfold Cell.okWide Cell.ok at hok
  rw [hu] at hok
  cases v <;> first | rfl | (simp at hok)
theorem open_int {H : Type} {enc : TypeId × Value → H} {W : World} {base : Nat} {v : Value} {x : DataW H} {ps : List MemPlace} (hok : Value.okWide Tryz.prog W .any base 3 v) (h : DataW.Trod enc Tryz.prog W 0 (fun _ => true) true 3 v x ps) :
    ∃ n : Int, Rel EE W noOwn (Out' (fun _ => False) W) (AVal.int .i64 n : AVal UU) v := by
  obtain ⟨a, h1, h2⟩ := open_leaf (C := C_base) (t := 3) (fun e he => by
    rw [show C_base.P.underlying 3 = _ from Tryz.underlying3] at he
    cases he) (by kernel_rfl) (by kernel_rfl) hok h (cells_int Tryz.underlying3 hok)
  obtain ⟨n, rfl, _⟩ := fits_int Tryz.underlying3 h1
  exact ⟨n, h2⟩
theorem open_flat {H : Type} {enc : TypeId × Value → H} {W : World} {base : Nat} {v : Value} {x : DataW H} {ps : List MemPlace} (hok : Value.okWide Tryz.prog W .any base 47 v) (h : DataW.Trod enc Tryz.prog W 0 (fun _ => true) true 47 v x ps) :
    ∃ (R C M : List Rect) (B : List Bend), sI B ∧ Rel EE W noOwn (Out' (fun _ => False) W) (AVal.agg [.sl .rect R, .sl .rect C, .sl .rect M, .sl .bend B] : AVal UU) v := by
  obtain ⟨zs, h1, h2, h3⟩ := open_agg (C := C_base) (d := 5) (t := 47) (fun u hu => by
    have hl : leafTys Tryz.prog 5 47 = [22, 22, 22, 45] := by kernel_rfl
    have hu' : u ∈ [22, 22, 22, 45] := hl ▸ hu
    have hu'' : u = 22 ∨ u = 45 := by
      simp only [List.mem_cons, List.not_mem_nil, or_false] at hu'
      rcases hu' with h | h | h | h <;> simp [h]
    rcases hu'' with rfl | rfl
    · refine ⟨by kernel_rfl, fun e he => ?_⟩
      rw [show C_base.P.underlying 22 = _ from Tryz.underlying22] at he
      cases he
      exact ⟨.rect, by kernel_rfl, opens_rect⟩
    · refine ⟨by kernel_rfl, fun e he => ?_⟩
      rw [show C_base.P.underlying 45 = _ from Tryz.underlying45] at he
      cases he
      exact ⟨.bend, by kernel_rfl, opens_bend⟩) (by kernel_rfl) (by kernel_rfl) (by kernel_rfl) hok h
  have hl : leafTys C_base.P 5 47 = [22, 22, 22, 45] := by kernel_rfl
  simp only [hl] at h1 h2
  match zs, h1 with
  | [a0, a1, a2, a3], _ =>
    obtain ⟨n0, rfl⟩ := fits_slice Tryz.underlying22 (τ := .rect) (by kernel_rfl) (h2 0 (by simp) (by simp))
    obtain ⟨n1, rfl⟩ := fits_slice Tryz.underlying22 (τ := .rect) (by kernel_rfl) (h2 1 (by simp) (by simp))
    obtain ⟨n2, rfl⟩ := fits_slice Tryz.underlying22 (τ := .rect) (by kernel_rfl) (h2 2 (by simp) (by simp))
    obtain ⟨n3, rfl, hB⟩ := fits_sliceB Tryz.underlying45 (τ := .bend) (by kernel_rfl) (h2 3 (by simp) (by simp))
    exact ⟨n0, n1, n2, n3, hB, h3⟩
end
end Go.Proofs.YteffpgliiilnjaaGreatDoor
namespace Go.Proofs.YteffpgliiilnjaaGreatDoor
open Go.Vm Go.RowKit
set_option linter.unusedVariables false
noncomputable section
def M_zah : Nat → Nat → Nat → Canon UU := fun o b r => ⟨[], [], [], [], []⟩
def g_zah_e (a0 : List Rect) (Q : Bool → Prop) : Prop := Q ((sp_zn a0) == 0)
def w_zah (F : Nat) (a0 : List Rect) (Q : Bool → Prop) : Prop := g_zah_e a0 Q
def sp_zah (a0 : List Rect) : Bool := (sp_zn a0) == 0
theorem ok_zah (a0 : List Rect) : ∃ F, ∀ Q : Bool → Prop, Q (sp_zah a0) → w_zah F a0 Q := by
  refine ⟨0, fun Q h => ?_⟩
  unfold w_zah g_zah_e
  unfold sp_zah at h
  exact h
def M_zbw : Nat → Nat → Nat → Canon UU := fun o b r => ⟨[], [], [], [], []⟩
def g_zbw_e (a0 : List Int) (a1 : Int) (Q : Bool → Prop) : Prop := ((pre_zbv a0 a1) ∧ Q (decide (0 ≤ (sp_zbv a0 a1))))
def w_zbw (F : Nat) (a0 : List Int) (a1 : Int) (Q : Bool → Prop) : Prop := g_zbw_e a0 a1 Q
def pre_zbw (a0 : List Int) (a1 : Int) : Prop := (pre_zbv a0 a1)
def sp_zbw (a0 : List Int) (a1 : Int) : Bool := decide (0 ≤ (sp_zbv a0 a1))
theorem ok_zbw (a0 : List Int) (a1 : Int) (hp : pre_zbw a0 a1) : ∃ F, ∀ Q : Bool → Prop, Q (sp_zbw a0 a1) → w_zbw F a0 a1 Q := by
  refine ⟨0, fun Q h => ?_⟩
  unfold w_zbw g_zbw_e
  unfold sp_zbw at h
  unfold pre_zbw at hp
  have hc0_0 := hp
  refine ⟨hc0_0, ?_⟩
  exact h
end
end Go.Proofs.YteffpgliiilnjaaGreatDoor
namespace Go.Proofs.YteffpgliiilnjaaGreatDoor
open Go.Vm Go.RowKit
set_option linter.unusedVariables false
noncomputable section
def M_zbo : Nat → Nat → Nat → Canon UU := fun o b r => cond (Nat.beq b 0) ⟨[1, 2, 19, 20, 21], [1], [], [], []⟩ (cond (Nat.beq b 2) ⟨[1, 2, 19, 20, 21, 28, 29, 30], [1], [], [], []⟩ (cond (Nat.beq b 4) ⟨[2, 40, 41, 42], [], [], [], []⟩ (⟨[], [], [], [], []⟩)))
def st_zbo_0 (t2 : Int) (t19 : List (List Rect)) (t20 t21 : Int) (c1_0 c1_1 c1_2 : List Rect) (c1_3 : List Bend) : ASt UU := ⟨fun u => cond (Nat.beq u 1) (.ptr 1 0) (cond (Nat.beq u 2) (.int .i64 t2) (cond (Nat.beq u 19) (.sl .rects t19) (cond (Nat.beq u 20) (.int .i64 t20) (cond (Nat.beq u 21) (.int .i64 t21) (.any))))), fun u => cond (Nat.beq u 1) (some (.cells [.sl .rect c1_0, .sl .rect c1_1, .sl .rect c1_2, .sl .bend c1_3])) (none)⟩
def st_zbo_1 (t2 : Int) (t19 : List (List Rect)) (t20 t21 : Int) (t28 : List Rect) (t29 t30 : Int) (c1_0 c1_1 c1_2 : List Rect) (c1_3 : List Bend) : ASt UU := ⟨fun u => cond (Nat.beq u 1) (.ptr 1 0) (cond (Nat.beq u 2) (.int .i64 t2) (cond (Nat.beq u 19) (.sl .rects t19) (cond (Nat.beq u 20) (.int .i64 t20) (cond (Nat.beq u 21) (.int .i64 t21) (cond (Nat.beq u 28) (.sl .rect t28) (cond (Nat.beq u 29) (.int .i64 t29) (cond (Nat.beq u 30) (.int .i64 t30) (.any)))))))), fun u => cond (Nat.beq u 1) (some (.cells [.sl .rect c1_0, .sl .rect c1_1, .sl .rect c1_2, .sl .bend c1_3])) (none)⟩
def st_zbo_2 (t2 : Int) (t40 : List Bend) (t41 t42 : Int) : ASt UU := ⟨fun u => cond (Nat.beq u 2) (.int .i64 t2) (cond (Nat.beq u 40) (.sl .bend t40) (cond (Nat.beq u 41) (.int .i64 t41) (cond (Nat.beq u 42) (.int .i64 t42) (.any)))), fun u => none⟩
def g_zbo_e (qa qc qd : List Rect) (qb : List Bend) (Q : Int → Prop) (i0 : Int → List (List Rect) → Int → Int → List Rect → List Rect → List Rect → List Bend → Prop) : Prop := cond ((qa.length : Int) == 0) (Q 1) ((let v0 := (([qa, qc, qd]).length : Int); i0 0 ([qa, qc, qd]) v0 0 qa qc qd qb))
def g_zbo_s0 (rec : Int → List (List Rect) → Int → Int → List Rect → List Rect → List Rect → List Bend → Prop) (x0 : Int → List (List Rect) → Int → Int → List Rect → List Rect → List Rect → List Bend → Prop) (x1 : Int → List (List Rect) → Int → Int → List Rect → List Rect → List Rect → List Bend → Prop) (t2 : Int) (t19 : List (List Rect)) (t20 t21 : Int) (c1_0 c1_1 c1_2 : List Rect) (c1_3 : List Bend) (i1 : Int → List (List Rect) → Int → Int → List Rect → Int → Int → List Rect → List Rect → List Rect → List Bend → Prop) : Prop := cond (decide (t21 < t20)) ((let e0 := (t19.getD t21.toNat default); ((0 ≤ t21 ∧ t21 < t19.length) ∧ cond (decide (48 < (e0.length : Int))) (x0 1 t19 t20 t21 c1_0 c1_1 c1_2 c1_3) (i1 t2 t19 t20 t21 e0 (e0.length : Int) 0 c1_0 c1_1 c1_2 c1_3)))) (x1 t2 t19 t20 t21 c1_0 c1_1 c1_2 c1_3)
def g_zbo_c0_0 (Q : Int → Prop) (t2 : Int) (t19 : List (List Rect)) (t20 t21 : Int) (c1_0 c1_1 c1_2 : List Rect) (c1_3 : List Bend) : Prop := Q t2
def g_zbo_c0_1 (Q : Int → Prop) (t2 : Int) (t19 : List (List Rect)) (t20 t21 : Int) (c1_0 c1_1 c1_2 : List Rect) (c1_3 : List Bend) (i2 : Int → List Bend → Int → Int → Prop) : Prop := i2 t2 c1_3 (c1_3.length : Int) 0
def g_zbo_s1 (rec : Int → List (List Rect) → Int → Int → List Rect → Int → Int → List Rect → List Rect → List Rect → List Bend → Prop) (x0 : Int → List (List Rect) → Int → Int → List Rect → Int → Int → List Rect → List Rect → List Rect → List Bend → Prop) (x1 : Int → List (List Rect) → Int → Int → List Rect → Int → Int → List Rect → List Rect → List Rect → List Bend → Prop) (t2 : Int) (t19 : List (List Rect)) (t20 t21 : Int) (t28 : List Rect) (t29 t30 : Int) (c1_0 c1_1 c1_2 : List Rect) (c1_3 : List Bend) : Prop := cond (decide (t30 < t29)) ((let e0 := (t28.getD t30.toNat default); ((0 ≤ t30 ∧ t30 < t28.length) ∧ cond (!(sp_zy e0.X e0.Y e0.W e0.H)) (x0 1 t19 t20 t21 t28 t29 t30 c1_0 c1_1 c1_2 c1_3) (rec t2 t19 t20 t21 t28 t29 (w64 (t30 + 1)) c1_0 c1_1 c1_2 c1_3)))) (x1 t2 t19 t20 t21 t28 t29 t30 c1_0 c1_1 c1_2 c1_3)
def g_zbo_c1_0 (rec : Int → List (List Rect) → Int → Int → List Rect → List Rect → List Rect → List Bend → Prop) (x0 : Int → List (List Rect) → Int → Int → List Rect → List Rect → List Rect → List Bend → Prop) (x1 : Int → List (List Rect) → Int → Int → List Rect → List Rect → List Rect → List Bend → Prop) (t2 : Int) (t19 : List (List Rect)) (t20 t21 : Int) (t28 : List Rect) (t29 t30 : Int) (c1_0 c1_1 c1_2 : List Rect) (c1_3 : List Bend) : Prop := x0 t2 t19 t20 t21 c1_0 c1_1 c1_2 c1_3
def g_zbo_c1_1 (rec : Int → List (List Rect) → Int → Int → List Rect → List Rect → List Rect → List Bend → Prop) (x0 : Int → List (List Rect) → Int → Int → List Rect → List Rect → List Rect → List Bend → Prop) (x1 : Int → List (List Rect) → Int → Int → List Rect → List Rect → List Rect → List Bend → Prop) (t2 : Int) (t19 : List (List Rect)) (t20 t21 : Int) (t28 : List Rect) (t29 t30 : Int) (c1_0 c1_1 c1_2 : List Rect) (c1_3 : List Bend) : Prop := rec t2 t19 t20 (w64 (t21 + 1)) c1_0 c1_1 c1_2 c1_3
def g_zbo_s2 (rec : Int → List Bend → Int → Int → Prop) (x0 : Int → List Bend → Int → Int → Prop) (x1 : Int → List Bend → Int → Int → Prop) (t2 : Int) (t40 : List Bend) (t41 t42 : Int) : Prop := cond (decide (t42 < t41)) ((let e0 := (t40.getD t42.toNat default); ((0 ≤ t42 ∧ t42 < t40.length) ∧ (let r1 := (sp_zak e0.qae e0.qad e0.qaf e0.qag); cond (!r1) (x0 1 t40 t41 t42) (rec t2 t40 t41 (w64 (t42 + 1))))))) (x1 t2 t40 t41 t42)
def g_zbo_c2_0 (Q : Int → Prop) (t2 : Int) (t40 : List Bend) (t41 t42 : Int) : Prop := Q t2
def g_zbo_c2_1 (Q : Int → Prop) (t2 : Int) (t40 : List Bend) (t41 t42 : Int) : Prop := Q 0
def w_zbo_1 (F : Nat) (x0 : Int → List (List Rect) → Int → Int → List Rect → Int → Int → List Rect → List Rect → List Rect → List Bend → Prop) (x1 : Int → List (List Rect) → Int → Int → List Rect → Int → Int → List Rect → List Rect → List Rect → List Bend → Prop) : Nat → Int → List (List Rect) → Int → Int → List Rect → Int → Int → List Rect → List Rect → List Rect → List Bend → Prop
  | 0, _, _, _, _, _, _, _, _, _, _, _ => False
  | n + 1, t2, t19, t20, t21, t28, t29, t30, c1_0, c1_1, c1_2, c1_3 => g_zbo_s1 (w_zbo_1 F x0 x1 n) x0 x1 t2 t19 t20 t21 t28 t29 t30 c1_0 c1_1 c1_2 c1_3
def n_zbo_1 (F : Nat) (rec : Int → List (List Rect) → Int → Int → List Rect → List Rect → List Rect → List Bend → Prop) (x0 : Int → List (List Rect) → Int → Int → List Rect → List Rect → List Rect → List Bend → Prop) (x1 : Int → List (List Rect) → Int → Int → List Rect → List Rect → List Rect → List Bend → Prop) (t2 : Int) (t19 : List (List Rect)) (t20 t21 : Int) (t28 : List Rect) (t29 t30 : Int) (c1_0 c1_1 c1_2 : List Rect) (c1_3 : List Bend) : Prop := w_zbo_1 F (fun t2 t19 t20 t21 t28 t29 t30 c1_0 c1_1 c1_2 c1_3 => g_zbo_c1_0 rec x0 x1 t2 t19 t20 t21 t28 t29 t30 c1_0 c1_1 c1_2 c1_3) (fun t2 t19 t20 t21 t28 t29 t30 c1_0 c1_1 c1_2 c1_3 => g_zbo_c1_1 rec x0 x1 t2 t19 t20 t21 t28 t29 t30 c1_0 c1_1 c1_2 c1_3) F t2 t19 t20 t21 t28 t29 t30 c1_0 c1_1 c1_2 c1_3
def w_zbo_2 (F : Nat) (x0 : Int → List Bend → Int → Int → Prop) (x1 : Int → List Bend → Int → Int → Prop) : Nat → Int → List Bend → Int → Int → Prop
  | 0, _, _, _, _ => False
  | n + 1, t2, t40, t41, t42 => g_zbo_s2 (w_zbo_2 F x0 x1 n) x0 x1 t2 t40 t41 t42
def n_zbo_2 (F : Nat) (Q : Int → Prop) (t2 : Int) (t40 : List Bend) (t41 t42 : Int) : Prop := w_zbo_2 F (fun t2 t40 t41 t42 => g_zbo_c2_0 Q t2 t40 t41 t42) (fun t2 t40 t41 t42 => g_zbo_c2_1 Q t2 t40 t41 t42) F t2 t40 t41 t42
def w_zbo_0 (F : Nat) (x0 : Int → List (List Rect) → Int → Int → List Rect → List Rect → List Rect → List Bend → Prop) (x1 : Int → List (List Rect) → Int → Int → List Rect → List Rect → List Rect → List Bend → Prop) : Nat → Int → List (List Rect) → Int → Int → List Rect → List Rect → List Rect → List Bend → Prop
  | 0, _, _, _, _, _, _, _, _ => False
  | n + 1, t2, t19, t20, t21, c1_0, c1_1, c1_2, c1_3 => g_zbo_s0 (w_zbo_0 F x0 x1 n) x0 x1 t2 t19 t20 t21 c1_0 c1_1 c1_2 c1_3 (n_zbo_1 F (w_zbo_0 F x0 x1 n) x0 x1)
def n_zbo_0 (F : Nat) (Q : Int → Prop) (t2 : Int) (t19 : List (List Rect)) (t20 t21 : Int) (c1_0 c1_1 c1_2 : List Rect) (c1_3 : List Bend) : Prop := w_zbo_0 F (fun t2 t19 t20 t21 c1_0 c1_1 c1_2 c1_3 => g_zbo_c0_0 Q t2 t19 t20 t21 c1_0 c1_1 c1_2 c1_3) (fun t2 t19 t20 t21 c1_0 c1_1 c1_2 c1_3 => g_zbo_c0_1 Q t2 t19 t20 t21 c1_0 c1_1 c1_2 c1_3 (n_zbo_2 F Q)) F t2 t19 t20 t21 c1_0 c1_1 c1_2 c1_3
def w_zbo (F : Nat) (qa qc qd : List Rect) (qb : List Bend) (Q : Int → Prop) : Prop := g_zbo_e qa qc qd qb Q (n_zbo_0 F Q)
def M_zay : Nat → Nat → Nat → Canon UU := fun o b r => cond (Nat.beq b 0) ⟨[1, 2, 3], [1], [], [], []⟩ (⟨[], [], [], [], []⟩)
def st_zay_0 (t2 : Bool) (t3 : Int) (c1_0 c1_1 c1_2 : List Rect) (c1_3 : List Bend) : ASt UU := ⟨fun u => cond (Nat.beq u 1) (.ptr 1 0) (cond (Nat.beq u 2) (.bool t2) (cond (Nat.beq u 3) (.int .i64 t3) (.any))), fun u => cond (Nat.beq u 1) (some (.cells [.sl .rect c1_0, .sl .rect c1_1, .sl .rect c1_2, .sl .bend c1_3])) (none)⟩
def g_zay_e (qa qc qd : List Rect) (qb : List Bend) (Q : Bool → Prop) (i0 : Bool → Int → List Rect → List Rect → List Rect → List Bend → Prop) : Prop := cond (((((qa.length : Int) == 0) || (!(sp_zah qa))) || (!(sp_zah qc))) || (!(sp_zah qd))) (Q false) (i0 false 0 qa qc qd qb)
def g_zay_s0 (rec : Bool → Int → List Rect → List Rect → List Rect → List Bend → Prop) (x0 : Bool → Int → List Rect → List Rect → List Rect → List Bend → Prop) (x1 : Bool → Int → List Rect → List Rect → List Rect → List Bend → Prop) (t2 : Bool) (t3 : Int) (c1_0 c1_1 c1_2 : List Rect) (c1_3 : List Bend) : Prop := cond (decide (t3 < (c1_3.length : Int))) ((let e0 := (c1_3.getD t3.toNat default); (let r1 := (sp_zal e0.qae e0.qad e0.qaf e0.qag); ((0 ≤ t3 ∧ t3 < c1_3.length) ∧ cond (!r1) (x0 false t3 c1_0 c1_1 c1_2 c1_3) (rec t2 (w64 (t3 + 1)) c1_0 c1_1 c1_2 c1_3))))) (x1 t2 t3 c1_0 c1_1 c1_2 c1_3)
def g_zay_c0_0 (Q : Bool → Prop) (t2 : Bool) (t3 : Int) (c1_0 c1_1 c1_2 : List Rect) (c1_3 : List Bend) : Prop := Q t2
def g_zay_c0_1 (Q : Bool → Prop) (t2 : Bool) (t3 : Int) (c1_0 c1_1 c1_2 : List Rect) (c1_3 : List Bend) : Prop := Q true
def w_zay_0 (F : Nat) (x0 : Bool → Int → List Rect → List Rect → List Rect → List Bend → Prop) (x1 : Bool → Int → List Rect → List Rect → List Rect → List Bend → Prop) : Nat → Bool → Int → List Rect → List Rect → List Rect → List Bend → Prop
  | 0, _, _, _, _, _, _ => False
  | n + 1, t2, t3, c1_0, c1_1, c1_2, c1_3 => g_zay_s0 (w_zay_0 F x0 x1 n) x0 x1 t2 t3 c1_0 c1_1 c1_2 c1_3
def n_zay_0 (F : Nat) (Q : Bool → Prop) (t2 : Bool) (t3 : Int) (c1_0 c1_1 c1_2 : List Rect) (c1_3 : List Bend) : Prop := w_zay_0 F (fun t2 t3 c1_0 c1_1 c1_2 c1_3 => g_zay_c0_0 Q t2 t3 c1_0 c1_1 c1_2 c1_3) (fun t2 t3 c1_0 c1_1 c1_2 c1_3 => g_zay_c0_1 Q t2 t3 c1_0 c1_1 c1_2 c1_3) F t2 t3 c1_0 c1_1 c1_2 c1_3
def w_zay (F : Nat) (qa qc qd : List Rect) (qb : List Bend) (Q : Bool → Prop) : Prop := g_zay_e qa qc qd qb Q (n_zay_0 F Q)
end
end Go.Proofs.YteffpgliiilnjaaGreatDoor
namespace Go.Proofs.YteffpgliiilnjaaGreatDoor
open Go.Vm Go.RowKit
set_option linter.unusedVariables false
noncomputable section
def vG (r : Rect) : Bool := sp_zy r.X r.Y r.W r.H
theorem vG_vR (r : Rect) : vG r = vR r := by
  rw [Bool.eq_iff_iff, vR_iff]
  unfold vG sp_zy sp_zo sp_zbi
  rw [w64_of (n := 0 - 1048576) (by omega) (by omega)]
  simp only [Bool.and_eq_true, decide_eq_true_eq]
  constructor
  · intro h
    have e1 : w64 (r.X + r.W) = r.X + r.W := w64_of (by omega) (by omega)
    have e2 : w64 (r.Y + r.H) = r.Y + r.H := w64_of (by omega) (by omega)
    omega
  · intro h
    have e1 : w64 (r.X + r.W) = r.X + r.W := w64_of (by omega) (by omega)
    have e2 : w64 (r.Y + r.H) = r.Y + r.H := w64_of (by omega) (by omega)
    omega
theorem vGs : vG = vR := funext vG_vR
def lineOK (b : Bend) : Bool := sp_zak b.qae b.qad b.qaf b.qag
theorem lineIn_eq (b : Bend) : sp_zal b.qae b.qad b.qaf b.qag = lineOK b := by
  unfold sp_zal lineOK sp_zak rng sp_zar
  simp only [Bool.and_assoc]
def okL (l : List Rect) : Bool := decide (l.length ≤ 48) && l.all vR
def wholeB (R C M : List Rect) (B : List Bend) : Bool := decide (R.length ≠ 0) && (okL R && (okL C && okL M)) && B.all lineOK
def pre_zbo (R C M : List Rect) (B : List Bend) : Prop := sI B
def sp_zbo (R C M : List Rect) (B : List Bend) : Int := bif wholeB R C M B then 0 else 1
def pre_zay (R C M : List Rect) (B : List Bend) : Prop := sI B
def sp_zay (R C M : List Rect) (B : List Bend) : Bool := wholeB R C M B
theorem lp_check0 (F : Nat) (hF : 100 < F) (x0 x1 : Int → List (List Rect) → Int → Int → List Rect → List Rect → List Rect → List Bend → Prop) (t2 : Int) (R C M : List Rect) (B : List Bend) (L : List (List Rect)) (hL : L.length ≤ 1000) : ∀ (n i : Nat), i ≤ L.length → L.length < i + n →
    (∀ j, (L.drop i).all okL = false → x0 1 L L.length j R C M B) → ((L.drop i).all okL = true → x1 t2 L L.length L.length R C M B) → w_zbo_0 F x0 x1 n t2 L L.length i R C M B := by
  intro n
  induction n with
  | zero => intro i h1 h2; omega
  | succ n ih =>
    intro i h1 h2 e0 e1
    show g_zbo_s0 (w_zbo_0 F x0 x1 n) x0 x1 t2 L L.length i R C M B (n_zbo_1 F (w_zbo_0 F x0 x1 n) x0 x1)
    unfold g_zbo_s0
    by_cases h : i < L.length
    · rw [dec_t (by omega), cond_true, Int.toNat_natCast]
      rw [drop_getD L i h, List.all_cons] at e0 e1
      revert e0 e1
      generalize L.getD i default = l
      intro e0 e1
      dsimp only
      refine ⟨⟨by omega, by omega⟩, ?_⟩
      by_cases h48 : 48 < l.length
      · rw [dec_t (by omega), cond_true]
        refine e0 _ ?_
        unfold okL
        rw [dec_f (by omega)]
        rfl
      · rw [dec_f (by omega), cond_false]
        have hok : okL l = l.all vG := by unfold okL; rw [dec_t (by omega), vGs]; rfl
        rw [hok] at e0 e1
        refine all_loop0 l vG (by omega) (fun n' j => w_zbo_1 F (fun t2 t19 t20 t21 t28 t29 t30 c1_0 c1_1 c1_2 c1_3 => g_zbo_c1_0 (w_zbo_0 F x0 x1 n) x0 x1 t2 t19 t20 t21 t28 t29 t30 c1_0 c1_1 c1_2 c1_3) (fun t2 t19 t20 t21 t28 t29 t30 c1_0 c1_1 c1_2 c1_3 => g_zbo_c1_1 (w_zbo_0 F x0 x1 n) x0 x1 t2 t19 t20 t21 t28 t29 t30 c1_0 c1_1 c1_2 c1_3) n' t2 L L.length i l l.length j R C M B) (fun j => x0 1 L L.length i R C M B) (fun j => w_zbo_0 F x0 x1 n t2 L L.length (w64 (i + 1)) R C M B) (fun n' j => rfl) F (by omega) (fun q j => ?_) (fun q => ?_)
        · rw [q] at e0
          exact e0 _ rfl
        · rw [q] at e0 e1
          rw [w64_succ h (by omega)]
          exact ih _ (by omega) (by omega) e0 e1
    · rw [dec_f (by omega), cond_false]
      have he : i = L.length := by omega
      rw [he] at e1 ⊢
      exact e1 (by simp)
theorem ok_zbo (qa qc qd : List Rect) (qb : List Bend) (h : pre_zbo qa qc qd qb) : ∃ F, ∀ Q : Int → Prop, Q (sp_zbo qa qc qd qb) → w_zbo F qa qc qd qb Q := by
  refine ⟨qb.length + 101, fun Q hQ => ?_⟩
  unfold w_zbo g_zbo_e n_zbo_0
  unfold sp_zbo wholeB at hQ
  by_cases h0 : qa.length = 0
  · rw [show ((qa.length : Int) == 0) = true by simp [h0], cond_true]
    rw [dec_f (by simpa using h0)] at hQ
    exact hQ
  · rw [show ((qa.length : Int) == 0) = false from beq_eq_false_iff_ne.2 (by omega), cond_false]
    rw [dec_t (by simpa using h0), Bool.true_and] at hQ
    refine lp_check0 (qb.length + 101) (by omega) _ _ 0 _ _ _ _ [qa, qc, qd] (by simp) (qb.length + 101) 0 (by simp) (by simp only [List.length_cons, List.length_nil]; omega) (fun j e => ?_) (fun e => ?_)
    · simp only [List.drop_zero, List.all_cons, List.all_nil, Bool.and_true] at e
      rw [e] at hQ
      exact hQ
    · simp only [List.drop_zero, List.all_cons, List.all_nil, Bool.and_true] at e
      rw [e, Bool.true_and] at hQ
      refine all_loopS0 qb lineOK h (fun n i => w_zbo_2 (qb.length + 101) (fun t2 t40 t41 t42 => g_zbo_c2_0 Q t2 t40 t41 t42) (fun t2 t40 t41 t42 => g_zbo_c2_1 Q t2 t40 t41 t42) n 0 qb qb.length i) (fun j => Q 1) (fun j => Q 0) (fun n i => rfl) (qb.length + 101) (by omega) (fun q j => ?_) (fun q => ?_)
      all_goals
        rw [q] at hQ
        exact hQ
theorem rectsIn_eq (l : List Rect) : sp_zah l = okL l := by
  unfold sp_zah sp_zn okL
  by_cases h : 48 < l.length
  · rw [dec_t h, dec_f (by omega : ¬ l.length ≤ 48)]
    rfl
  · rw [dec_f h, dec_t (by omega : l.length ≤ 48)]
    cases l.all vR <;> rfl
theorem ok_zay (qa qc qd : List Rect) (qb : List Bend) (h : pre_zay qa qc qd qb) : ∃ F, ∀ Q : Bool → Prop, Q (sp_zay qa qc qd qb) → w_zay F qa qc qd qb Q := by
  refine ⟨qb.length + 1, fun Q hQ => ?_⟩
  unfold w_zay g_zay_e n_zay_0
  unfold sp_zay wholeB at hQ
  rw [rectsIn_eq, rectsIn_eq, rectsIn_eq]
  have e0 : ((((((qa.length : Int) == 0) || (!(okL qa))) || (!(okL qc))) || (!(okL qd)))) = !(decide (qa.length ≠ 0) && (okL qa && (okL qc && okL qd))) := by
    have : ((qa.length : Int) == 0) = !decide (qa.length ≠ 0) := by
      by_cases h0 : qa.length = 0
      · rw [show ((qa.length : Int) == 0) = true by simp [h0], dec_f (by simpa using h0)]
        rfl
      · rw [show ((qa.length : Int) == 0) = false from beq_eq_false_iff_ne.2 (by omega), dec_t (by simpa using h0)]
        rfl
    rw [this]
    simp only [Bool.not_and, Bool.or_assoc]
  rw [e0]
  cases hw : (decide (qa.length ≠ 0) && (okL qa && (okL qc && okL qd)))
  · rw [hw] at hQ
    exact hQ
  · rw [hw, Bool.true_and] at hQ
    refine all_loopS0 qb (fun b => sp_zal b.qae b.qad b.qaf b.qag) h (fun n i => w_zay_0 (qb.length + 1) (fun t2 t3 c1_0 c1_1 c1_2 c1_3 => g_zay_c0_0 Q t2 t3 c1_0 c1_1 c1_2 c1_3) (fun t2 t3 c1_0 c1_1 c1_2 c1_3 => g_zay_c0_1 Q t2 t3 c1_0 c1_1 c1_2 c1_3) n false i qa qc qd qb) (fun j => Q false) (fun j => Q true) (fun n i => rfl) (qb.length + 1) (by omega) (fun q j => ?_) (fun q => ?_)
    all_goals
      rw [funext lineIn_eq] at q
      rw [q] at hQ
      exact hQ
end
end Go.Proofs.YteffpgliiilnjaaGreatDoor
namespace Go.Proofs.YteffpgliiilnjaaGreatDoor
open Go.Vm Go.RowKit
set_option linter.unusedVariables false
noncomputable section
def M_zbf : Nat → Nat → Nat → Canon UU := fun o b r => ⟨[], [], [], [], []⟩
def g_zbf_e (qa qc qd : List Rect) (qb : List Bend) (Q : Int → Int → Int → Int → Int → Prop) : Prop := ((pre_zbo qa qc qd qb) ∧ cond ((sp_zbo qa qc qd qb) != 0) (Q 0 0 0 0 (sp_zbo qa qc qd qb)) (((pre_zbd qa) ∧ Q ((sp_zbd qa).1) ((sp_zbd qa).2.1) ((sp_zbd qa).2.2.1) ((sp_zbd qa).2.2.2) 0)))
def w_zbf (F : Nat) (qa qc qd : List Rect) (qb : List Bend) (Q : Int → Int → Int → Int → Int → Prop) : Prop := g_zbf_e qa qc qd qb Q
def pre_zbf (qa qc qd : List Rect) (qb : List Bend) : Prop := (pre_zbo qa qc qd qb) ∧ (cond ((sp_zbo qa qc qd qb) != 0) (True) ((pre_zbd qa)))
def sp_zbf (qa qc qd : List Rect) (qb : List Bend) : Int × Int × Int × Int × Int := cond ((sp_zbo qa qc qd qb) != 0) ((0, 0, 0, 0, (sp_zbo qa qc qd qb))) (((sp_zbd qa).1, (sp_zbd qa).2.1, (sp_zbd qa).2.2.1, (sp_zbd qa).2.2.2, 0))
theorem ok_zbf (qa qc qd : List Rect) (qb : List Bend) (hp : pre_zbf qa qc qd qb) : ∃ F, ∀ Q : Int → Int → Int → Int → Int → Prop, Q ((sp_zbf qa qc qd qb).1) ((sp_zbf qa qc qd qb).2.1) ((sp_zbf qa qc qd qb).2.2.1) ((sp_zbf qa qc qd qb).2.2.2.1) ((sp_zbf qa qc qd qb).2.2.2.2) → w_zbf F qa qc qd qb Q := by
  refine ⟨0, fun Q h => ?_⟩
  unfold w_zbf g_zbf_e
  unfold sp_zbf at h
  unfold pre_zbf at hp
  obtain ⟨hc0_0, hp⟩ := hp
  refine ⟨hc0_0, ?_⟩
  cases hb1 : ((sp_zbo qa qc qd qb) != 0)
  · try simp only [hb1, cond_false] at h hp ⊢
    have hc2_0 := hp
    refine ⟨hc2_0, ?_⟩
    exact h
  · try simp only [hb1, cond_true] at h hp ⊢
    exact h
def M_zav : Nat → Nat → Nat → Canon UU := fun o b r => ⟨[], [], [], [], []⟩
def g_zav_e (qa qc qd : List Rect) (qb : List Bend) (Q : Int → Int → Int → Int → Int → Prop) : Prop := ((pre_zay qa qc qd qb) ∧ cond (!(sp_zay qa qc qd qb)) (Q 0 0 0 0 1) (((pre_zaj qa) ∧ Q ((sp_zaj qa).1) ((sp_zaj qa).2.1) ((sp_zaj qa).2.2.1) ((sp_zaj qa).2.2.2) 0)))
def w_zav (F : Nat) (qa qc qd : List Rect) (qb : List Bend) (Q : Int → Int → Int → Int → Int → Prop) : Prop := g_zav_e qa qc qd qb Q
def pre_zav (qa qc qd : List Rect) (qb : List Bend) : Prop := (pre_zay qa qc qd qb) ∧ (cond (!(sp_zay qa qc qd qb)) (True) ((pre_zaj qa)))
def sp_zav (qa qc qd : List Rect) (qb : List Bend) : Int × Int × Int × Int × Int := cond (!(sp_zay qa qc qd qb)) ((0, 0, 0, 0, 1)) (((sp_zaj qa).1, (sp_zaj qa).2.1, (sp_zaj qa).2.2.1, (sp_zaj qa).2.2.2, 0))
theorem ok_zav (qa qc qd : List Rect) (qb : List Bend) (hp : pre_zav qa qc qd qb) : ∃ F, ∀ Q : Int → Int → Int → Int → Int → Prop, Q ((sp_zav qa qc qd qb).1) ((sp_zav qa qc qd qb).2.1) ((sp_zav qa qc qd qb).2.2.1) ((sp_zav qa qc qd qb).2.2.2.1) ((sp_zav qa qc qd qb).2.2.2.2) → w_zav F qa qc qd qb Q := by
  refine ⟨0, fun Q h => ?_⟩
  unfold w_zav g_zav_e
  unfold sp_zav at h
  unfold pre_zav at hp
  obtain ⟨hc0_0, hp⟩ := hp
  refine ⟨hc0_0, ?_⟩
  cases hb1 : (!(sp_zay qa qc qd qb))
  · try simp only [hb1, cond_false] at h hp ⊢
    have hc2_0 := hp
    refine ⟨hc2_0, ?_⟩
    exact h
  · try simp only [hb1, cond_true] at h hp ⊢
    exact h
end
end Go.Proofs.YteffpgliiilnjaaGreatDoor
namespace Go.Proofs.YteffpgliiilnjaaGreatDoor
open Go.Vm Go.RowKit
set_option linter.unusedVariables false
noncomputable section
def M_zh : Nat → Nat → Nat → Canon UU := fun o b r => cond (Nat.beq b 0) ⟨[2, 4, 48, 49, 50], [2], [], [], []⟩ (cond (Nat.beq b 2) ⟨[2, 4, 89, 90, 91], [2], [], [], []⟩ (⟨[], [], [], [], []⟩))
def st_zh_0 (t4 : Int) (t48 : List Bend) (t49 t50 : Int) (c2_0 c2_1 c2_2 : List Rect) (c2_3 : List Bend) : ASt UU := ⟨fun u => cond (Nat.beq u 2) (.ptr 2 0) (cond (Nat.beq u 4) (.int .i64 t4) (cond (Nat.beq u 48) (.sl .bend t48) (cond (Nat.beq u 49) (.int .i64 t49) (cond (Nat.beq u 50) (.int .i64 t50) (.any))))), fun u => cond (Nat.beq u 2) (some (.cells [.sl .rect c2_0, .sl .rect c2_1, .sl .rect c2_2, .sl .bend c2_3])) (none)⟩
def st_zh_1 (t4 : Int) (t89 : List Bend) (t90 t91 : Int) (c2_0 c2_1 c2_2 : List Rect) (c2_3 : List Bend) : ASt UU := ⟨fun u => cond (Nat.beq u 2) (.ptr 2 0) (cond (Nat.beq u 4) (.int .i64 t4) (cond (Nat.beq u 89) (.sl .bend t89) (cond (Nat.beq u 90) (.int .i64 t90) (cond (Nat.beq u 91) (.int .i64 t91) (.any))))), fun u => cond (Nat.beq u 2) (some (.cells [.sl .rect c2_0, .sl .rect c2_1, .sl .rect c2_2, .sl .bend c2_3])) (none)⟩
def g_zh_e (qa qc qd : List Rect) (qb : List Bend) (a1 : Int) (Q : Int → Prop) (i0 : Int → List Bend → Int → Int → List Rect → List Rect → List Rect → List Bend → Prop) : Prop := (let r0 := (sp_zbf qa qc qd qb); ((pre_zbf qa qc qd qb) ∧ cond (r0.2.2.2.2 != 0) (Q r0.2.2.2.2) ((let v1 := w64 (1 * 2 ^ (min ((qb.length : Int).toNat) 64)); ((((((qb.length : Int) != (w64 ((qa.length : Int) - 1))) || (decide (5 < (qb.length : Int)))) || (decide (a1 < 0))) = false → 0 ≤ (qb.length : Int)) ∧ cond (((((qb.length : Int) != (w64 ((qa.length : Int) - 1))) || (decide (5 < (qb.length : Int)))) || (decide (a1 < 0))) || (decide (v1 ≤ a1))) (Q 1) (i0 0 qb (qb.length : Int) 0 qa qc qd qb))))))
def g_zh_s0 (rec : Int → List Bend → Int → Int → List Rect → List Rect → List Rect → List Bend → Prop) (x0 : Int → List Bend → Int → Int → List Rect → List Rect → List Rect → List Bend → Prop) (x1 : Int → List Bend → Int → Int → List Rect → List Rect → List Rect → List Bend → Prop) (t4 : Int) (t48 : List Bend) (t49 t50 : Int) (c2_0 c2_1 c2_2 : List Rect) (c2_3 : List Bend) : Prop := cond (decide (t50 < t49)) ((let e0 := (t48.getD t50.toNat default); ((0 ≤ t50 ∧ t50 < t48.length) ∧ (let r1 := (sp_zbw ([90, (-90), 180, (-180)]) e0.Angle); (((((e0.Flange != t50) || (decide (e0.Parent < 0))) || (decide (t50 < e0.Parent))) = false → pre_zbw ([90, (-90), 180, (-180)]) e0.Angle) ∧ cond ((((((e0.Flange != t50) || (decide (e0.Parent < 0))) || (decide (t50 < e0.Parent))) || (!r1)) || (decide (e0.Deduct < 0))) || (decide (1048576 < e0.Deduct))) (x0 1 t48 t49 t50 c2_0 c2_1 c2_2 c2_3) (rec t4 t48 t49 (w64 (t50 + 1)) c2_0 c2_1 c2_2 c2_3)))))) (x1 t4 t48 t49 t50 c2_0 c2_1 c2_2 c2_3)
def g_zh_c0_0 (Q : Int → Prop) (t4 : Int) (t48 : List Bend) (t49 t50 : Int) (c2_0 c2_1 c2_2 : List Rect) (c2_3 : List Bend) : Prop := Q t4
def g_zh_c0_1 (Q : Int → Prop) (t4 : Int) (t48 : List Bend) (t49 t50 : Int) (c2_0 c2_1 c2_2 : List Rect) (c2_3 : List Bend) (i1 : Int → List Bend → Int → Int → List Rect → List Rect → List Rect → List Bend → Prop) : Prop := i1 t4 c2_3 (c2_3.length : Int) 0 c2_0 c2_1 c2_2 c2_3
def g_zh_s1 (rec : Int → List Bend → Int → Int → List Rect → List Rect → List Rect → List Bend → Prop) (x0 : Int → List Bend → Int → Int → List Rect → List Rect → List Rect → List Bend → Prop) (x1 : Int → List Bend → Int → Int → List Rect → List Rect → List Rect → List Bend → Prop) (t4 : Int) (t89 : List Bend) (t90 t91 : Int) (c2_0 c2_1 c2_2 : List Rect) (c2_3 : List Bend) : Prop := cond (decide (t91 < t90)) ((let e0 := (t89.getD t91.toNat default); ((0 ≤ t91 ∧ t91 < t89.length) ∧ (let e1 := (c2_0.getD ((w64 (t91 + 1)).toNat) default); ((0 ≤ (w64 (t91 + 1)) ∧ (w64 (t91 + 1)) < c2_0.length) ∧ (let r2 := (sp_zq e1.X e1.Y e1.W e1.H e0.qae e0.qad e0.qaf e0.qag); cond (!r2.2.2) (x0 6 t89 t90 t91 c2_0 c2_1 c2_2 c2_3) ((let e3 := (c2_0.getD e0.Parent.toNat default); ((0 ≤ e0.Parent ∧ e0.Parent < c2_0.length) ∧ (let r4 := (sp_zz e3.X e3.Y e3.W e3.H e0.qae e0.qad e0.qaf e0.qag r2.1 r2.2.1); cond (!r4) (x0 6 t89 t90 t91 c2_0 c2_1 c2_2 c2_3) (rec t4 t89 t90 (w64 (t91 + 1)) c2_0 c2_1 c2_2 c2_3))))))))))) (x1 t4 t89 t90 t91 c2_0 c2_1 c2_2 c2_3)
def g_zh_c1_0 (Q : Int → Prop) (t4 : Int) (t89 : List Bend) (t90 t91 : Int) (c2_0 c2_1 c2_2 : List Rect) (c2_3 : List Bend) : Prop := Q t4
def g_zh_c1_1 (Q : Int → Prop) (t4 : Int) (t89 : List Bend) (t90 t91 : Int) (c2_0 c2_1 c2_2 : List Rect) (c2_3 : List Bend) : Prop := Q 0
def w_zh_1 (F : Nat) (x0 : Int → List Bend → Int → Int → List Rect → List Rect → List Rect → List Bend → Prop) (x1 : Int → List Bend → Int → Int → List Rect → List Rect → List Rect → List Bend → Prop) : Nat → Int → List Bend → Int → Int → List Rect → List Rect → List Rect → List Bend → Prop
  | 0, _, _, _, _, _, _, _, _ => False
  | n + 1, t4, t89, t90, t91, c2_0, c2_1, c2_2, c2_3 => g_zh_s1 (w_zh_1 F x0 x1 n) x0 x1 t4 t89 t90 t91 c2_0 c2_1 c2_2 c2_3
def n_zh_1 (F : Nat) (Q : Int → Prop) (t4 : Int) (t89 : List Bend) (t90 t91 : Int) (c2_0 c2_1 c2_2 : List Rect) (c2_3 : List Bend) : Prop := w_zh_1 F (fun t4 t89 t90 t91 c2_0 c2_1 c2_2 c2_3 => g_zh_c1_0 Q t4 t89 t90 t91 c2_0 c2_1 c2_2 c2_3) (fun t4 t89 t90 t91 c2_0 c2_1 c2_2 c2_3 => g_zh_c1_1 Q t4 t89 t90 t91 c2_0 c2_1 c2_2 c2_3) F t4 t89 t90 t91 c2_0 c2_1 c2_2 c2_3
def w_zh_0 (F : Nat) (x0 : Int → List Bend → Int → Int → List Rect → List Rect → List Rect → List Bend → Prop) (x1 : Int → List Bend → Int → Int → List Rect → List Rect → List Rect → List Bend → Prop) : Nat → Int → List Bend → Int → Int → List Rect → List Rect → List Rect → List Bend → Prop
  | 0, _, _, _, _, _, _, _, _ => False
  | n + 1, t4, t48, t49, t50, c2_0, c2_1, c2_2, c2_3 => g_zh_s0 (w_zh_0 F x0 x1 n) x0 x1 t4 t48 t49 t50 c2_0 c2_1 c2_2 c2_3
def n_zh_0 (F : Nat) (Q : Int → Prop) (t4 : Int) (t48 : List Bend) (t49 t50 : Int) (c2_0 c2_1 c2_2 : List Rect) (c2_3 : List Bend) : Prop := w_zh_0 F (fun t4 t48 t49 t50 c2_0 c2_1 c2_2 c2_3 => g_zh_c0_0 Q t4 t48 t49 t50 c2_0 c2_1 c2_2 c2_3) (fun t4 t48 t49 t50 c2_0 c2_1 c2_2 c2_3 => g_zh_c0_1 Q t4 t48 t49 t50 c2_0 c2_1 c2_2 c2_3 (n_zh_1 F Q)) F t4 t48 t49 t50 c2_0 c2_1 c2_2 c2_3
def w_zh (F : Nat) (qa qc qd : List Rect) (qb : List Bend) (a1 : Int) (Q : Int → Prop) : Prop := g_zh_e qa qc qd qb a1 Q (n_zh_0 F Q)
def M_zbg : Nat → Nat → Nat → Canon UU := fun o b r => cond (Nat.beq b 0) ⟨[2, 4, 5, 6], [2], [], [], []⟩ (⟨[], [], [], [], []⟩)
def st_zbg_0 (t4 : Bool) (t5 t6 : Int) (c2_0 c2_1 c2_2 : List Rect) (c2_3 : List Bend) : ASt UU := ⟨fun u => cond (Nat.beq u 2) (.ptr 2 0) (cond (Nat.beq u 4) (.bool t4) (cond (Nat.beq u 5) (.int .i64 t5) (cond (Nat.beq u 6) (.int .i64 t6) (.any)))), fun u => cond (Nat.beq u 2) (some (.cells [.sl .rect c2_0, .sl .rect c2_1, .sl .rect c2_2, .sl .bend c2_3])) (none)⟩
def g_zbg_e (qa qc qd : List Rect) (qb : List Bend) (a1 : Int) (Q : Bool → Prop) (i0 : Bool → Int → Int → List Rect → List Rect → List Rect → List Bend → Prop) : Prop := (let v0 := w64 (1 * 2 ^ (min ((IntKind.u64.wrap (qb.length : Int)).toNat) 64)); ((((((qb.length : Int) != (w64 ((qa.length : Int) - 1))) || (decide (5 < (qb.length : Int)))) || (decide (a1 < 0))) = false → 0 ≤ (IntKind.u64.wrap (qb.length : Int))) ∧ cond (((((qb.length : Int) != (w64 ((qa.length : Int) - 1))) || (decide (5 < (qb.length : Int)))) || (decide (a1 < 0))) || (decide (v0 ≤ a1))) (Q true) (i0 false (qb.length : Int) 0 qa qc qd qb)))
def g_zbg_s0 (rec : Bool → Int → Int → List Rect → List Rect → List Rect → List Bend → Prop) (x0 : Bool → Int → Int → List Rect → List Rect → List Rect → List Bend → Prop) (x1 : Bool → Int → Int → List Rect → List Rect → List Rect → List Bend → Prop) (t4 : Bool) (t5 t6 : Int) (c2_0 c2_1 c2_2 : List Rect) (c2_3 : List Bend) : Prop := cond (decide (t6 < t5)) ((let e0 := (c2_3.getD t6.toNat default); ((0 ≤ t6 ∧ t6 < c2_3.length) ∧ cond ((((((e0.Flange != t6) || (decide (e0.Parent < 0))) || (decide (t6 < e0.Parent))) || ((((e0.Angle != 90) && (e0.Angle != (-90))) && (e0.Angle != 180)) && (e0.Angle != (-180)))) || (decide (e0.Deduct < 0))) || (decide (1048576 < e0.Deduct))) (x0 true t5 t6 c2_0 c2_1 c2_2 c2_3) (rec t4 t5 (w64 (t6 + 1)) c2_0 c2_1 c2_2 c2_3)))) (x1 t4 t5 t6 c2_0 c2_1 c2_2 c2_3)
def g_zbg_c0_0 (Q : Bool → Prop) (t4 : Bool) (t5 t6 : Int) (c2_0 c2_1 c2_2 : List Rect) (c2_3 : List Bend) : Prop := Q t4
def g_zbg_c0_1 (Q : Bool → Prop) (t4 : Bool) (t5 t6 : Int) (c2_0 c2_1 c2_2 : List Rect) (c2_3 : List Bend) : Prop := Q false
def w_zbg_0 (F : Nat) (x0 : Bool → Int → Int → List Rect → List Rect → List Rect → List Bend → Prop) (x1 : Bool → Int → Int → List Rect → List Rect → List Rect → List Bend → Prop) : Nat → Bool → Int → Int → List Rect → List Rect → List Rect → List Bend → Prop
  | 0, _, _, _, _, _, _, _ => False
  | n + 1, t4, t5, t6, c2_0, c2_1, c2_2, c2_3 => g_zbg_s0 (w_zbg_0 F x0 x1 n) x0 x1 t4 t5 t6 c2_0 c2_1 c2_2 c2_3
def n_zbg_0 (F : Nat) (Q : Bool → Prop) (t4 : Bool) (t5 t6 : Int) (c2_0 c2_1 c2_2 : List Rect) (c2_3 : List Bend) : Prop := w_zbg_0 F (fun t4 t5 t6 c2_0 c2_1 c2_2 c2_3 => g_zbg_c0_0 Q t4 t5 t6 c2_0 c2_1 c2_2 c2_3) (fun t4 t5 t6 c2_0 c2_1 c2_2 c2_3 => g_zbg_c0_1 Q t4 t5 t6 c2_0 c2_1 c2_2 c2_3) F t4 t5 t6 c2_0 c2_1 c2_2 c2_3
def w_zbg (F : Nat) (qa qc qd : List Rect) (qb : List Bend) (a1 : Int) (Q : Bool → Prop) : Prop := g_zbg_e qa qc qd qb a1 Q (n_zbg_0 F Q)
def M_zab : Nat → Nat → Nat → Canon UU := fun o b r => cond (Nat.beq b 0) ⟨[1, 2, 7, 38, 39, 40], [2], [(.tmp 7, 68, .frm)], [], []⟩ (⟨[], [], [], [], []⟩)
def st_zab_0 (t1 : Int) (t38 : List Bend) (t39 t40 : Int) (c2_0 c2_1 c2_2 : List Rect) (c2_3 : List Bend) (l68 : List Frm) : ASt UU := ⟨fun u => cond (Nat.beq u 1) (.int .i64 t1) (cond (Nat.beq u 2) (.ptr 2 0) (cond (Nat.beq u 7) (.osl 68 0) (cond (Nat.beq u 38) (.sl .bend t38) (cond (Nat.beq u 39) (.int .i64 t39) (cond (Nat.beq u 40) (.int .i64 t40) (.any)))))), fun u => cond (Nat.beq u 68) (some (.row .frm 0 l68)) (cond (Nat.beq u 2) (some (.cells [.sl .rect c2_0, .sl .rect c2_1, .sl .rect c2_2, .sl .bend c2_3])) (none))⟩
def g_zab_e (qa qc qd : List Rect) (qb : List Bend) (a1 : Int) (Q : List Frm → Prop) (i0 : Int → List Bend → Int → Int → List Rect → List Rect → List Rect → List Bend → List Frm → Prop) : Prop := (let e0 := (qa.getD 0 default); ((0 ≤ (0 : Int) ∧ (0 : Int) < qa.length) ∧ i0 a1 qb (qb.length : Int) 0 qa qc qd qb ([(Frm.mk e0.X e0.Y 0 1 0 0 0 1 0 e0.W e0.H e0.X e0.Y 1 0 0 1 0)])))
def g_zab_s0 (rec : Int → List Bend → Int → Int → List Rect → List Rect → List Rect → List Bend → List Frm → Prop) (x0 : Int → List Bend → Int → Int → List Rect → List Rect → List Rect → List Bend → List Frm → Prop) (t1 : Int) (t38 : List Bend) (t39 t40 : Int) (c2_0 c2_1 c2_2 : List Rect) (c2_3 : List Bend) (l68 : List Frm) : Prop := cond (decide (t40 < t39)) ((let e0 := (t38.getD t40.toNat default); ((0 ≤ t40 ∧ t40 < t38.length) ∧ ((0 ≤ e0.Parent ∧ e0.Parent < l68.length) ∧ (let e1 := (c2_0.getD ((w64 (t40 + 1)).toNat) default); ((0 ≤ (w64 (t40 + 1)) ∧ (w64 (t40 + 1)) < c2_0.length) ∧ ((0 ≤ t40) ∧ (let v2 := bandI .i64 (Int.fdiv t1 (2 ^ (min t40.toNat 64))) 1; (let r3 := (sp_zae ((l68.getD e0.Parent.toNat default).qaw) ((l68.getD e0.Parent.toNat default).qax) ((l68.getD e0.Parent.toNat default).qay) ((l68.getD e0.Parent.toNat default).qaq) ((l68.getD e0.Parent.toNat default).qar) ((l68.getD e0.Parent.toNat default).qas) ((l68.getD e0.Parent.toNat default).qat) ((l68.getD e0.Parent.toNat default).qau) ((l68.getD e0.Parent.toNat default).qav) ((l68.getD e0.Parent.toNat default).Face_W) ((l68.getD e0.Parent.toNat default).Face_H) ((l68.getD e0.Parent.toNat default).begin_X) ((l68.getD e0.Parent.toNat default).begin_Y) ((l68.getD e0.Parent.toNat default).u_X) ((l68.getD e0.Parent.toNat default).u_Y) ((l68.getD e0.Parent.toNat default).v_X) ((l68.getD e0.Parent.toNat default).v_Y) ((l68.getD e0.Parent.toNat default).ahead) e1.X e1.Y e1.W e1.H e0.Flange e0.Parent e0.qae e0.qad e0.qaf e0.qag e0.Angle e0.Deduct (v2 == 1)); (((l68.length + ([(Frm.mk r3.1 r3.2.1 r3.2.2.1 r3.2.2.2.1 r3.2.2.2.2.1 r3.2.2.2.2.2.1 r3.2.2.2.2.2.2.1 r3.2.2.2.2.2.2.2.1 r3.2.2.2.2.2.2.2.2.1 r3.2.2.2.2.2.2.2.2.2.1 r3.2.2.2.2.2.2.2.2.2.2.1 r3.2.2.2.2.2.2.2.2.2.2.2.1 r3.2.2.2.2.2.2.2.2.2.2.2.2.1 r3.2.2.2.2.2.2.2.2.2.2.2.2.2.1 r3.2.2.2.2.2.2.2.2.2.2.2.2.2.2.1 r3.2.2.2.2.2.2.2.2.2.2.2.2.2.2.2.1 r3.2.2.2.2.2.2.2.2.2.2.2.2.2.2.2.2.1 r3.2.2.2.2.2.2.2.2.2.2.2.2.2.2.2.2.2)]).length) * 144 ≤ 140737488355328) ∧ rec t1 t38 t39 (w64 (t40 + 1)) c2_0 c2_1 c2_2 c2_3 (l68 ++ ([(Frm.mk r3.1 r3.2.1 r3.2.2.1 r3.2.2.2.1 r3.2.2.2.2.1 r3.2.2.2.2.2.1 r3.2.2.2.2.2.2.1 r3.2.2.2.2.2.2.2.1 r3.2.2.2.2.2.2.2.2.1 r3.2.2.2.2.2.2.2.2.2.1 r3.2.2.2.2.2.2.2.2.2.2.1 r3.2.2.2.2.2.2.2.2.2.2.2.1 r3.2.2.2.2.2.2.2.2.2.2.2.2.1 r3.2.2.2.2.2.2.2.2.2.2.2.2.2.1 r3.2.2.2.2.2.2.2.2.2.2.2.2.2.2.1 r3.2.2.2.2.2.2.2.2.2.2.2.2.2.2.2.1 r3.2.2.2.2.2.2.2.2.2.2.2.2.2.2.2.2.1 r3.2.2.2.2.2.2.2.2.2.2.2.2.2.2.2.2.2)])))))))))))) (x0 t1 t38 t39 t40 c2_0 c2_1 c2_2 c2_3 l68)
def g_zab_c0_0 (Q : List Frm → Prop) (t1 : Int) (t38 : List Bend) (t39 t40 : Int) (c2_0 c2_1 c2_2 : List Rect) (c2_3 : List Bend) (l68 : List Frm) : Prop := Q l68
def w_zab_0 (F : Nat) (x0 : Int → List Bend → Int → Int → List Rect → List Rect → List Rect → List Bend → List Frm → Prop) : Nat → Int → List Bend → Int → Int → List Rect → List Rect → List Rect → List Bend → List Frm → Prop
  | 0, _, _, _, _, _, _, _, _, _ => False
  | n + 1, t1, t38, t39, t40, c2_0, c2_1, c2_2, c2_3, l68 => g_zab_s0 (w_zab_0 F x0 n) x0 t1 t38 t39 t40 c2_0 c2_1 c2_2 c2_3 l68
def n_zab_0 (F : Nat) (Q : List Frm → Prop) (t1 : Int) (t38 : List Bend) (t39 t40 : Int) (c2_0 c2_1 c2_2 : List Rect) (c2_3 : List Bend) (l68 : List Frm) : Prop := w_zab_0 F (fun t1 t38 t39 t40 c2_0 c2_1 c2_2 c2_3 l68 => g_zab_c0_0 Q t1 t38 t39 t40 c2_0 c2_1 c2_2 c2_3 l68) F t1 t38 t39 t40 c2_0 c2_1 c2_2 c2_3 l68
def w_zab (F : Nat) (qa qc qd : List Rect) (qb : List Bend) (a1 : Int) (Q : List Frm → Prop) : Prop := g_zab_e qa qc qd qb a1 Q (n_zab_0 F Q)
def M_zap : Nat → Nat → Nat → Canon UU := fun o b r => cond (Nat.beq b 0) ⟨[2, 3, 4, 5], [2, 3], [], [], []⟩ (⟨[], [], [], [], []⟩)
def st_zap_0 (t4 t5 : Int) (c2_0 c2_1 c2_2 : List Rect) (c2_3 : List Bend) (c3_0 c3_1 c3_2 c3_3 : Int) : ASt UU := ⟨fun u => cond (Nat.beq u 2) (.ptr 2 0) (cond (Nat.beq u 3) (.ptr 3 0) (cond (Nat.beq u 4) (.int .i64 t4) (cond (Nat.beq u 5) (.int .i64 t5) (.any)))), fun u => cond (Nat.beq u 2) (some (.cells [.sl .rect c2_0, .sl .rect c2_1, .sl .rect c2_2, .sl .bend c2_3])) (cond (Nat.beq u 3) (some (.cells [.int .i64 c3_0, .int .i64 c3_1, .int .i64 c3_2, .int .i64 c3_3])) (none))⟩
def g_zap_e (qa qc qd : List Rect) (qb : List Bend) (a1_X a1_Y a1_W a1_H : Int) (Q : Int → Prop) (i0 : Int → Int → List Rect → List Rect → List Rect → List Bend → Int → Int → Int → Int → Prop) : Prop := i0 0 0 qa qc qd qb a1_X a1_Y a1_W a1_H
def g_zap_s0 (rec : Int → Int → List Rect → List Rect → List Rect → List Bend → Int → Int → Int → Int → Prop) (x0 : Int → Int → List Rect → List Rect → List Rect → List Bend → Int → Int → Int → Int → Prop) (x1 : Int → Int → List Rect → List Rect → List Rect → List Bend → Int → Int → Int → Int → Prop) (t4 t5 : Int) (c2_0 c2_1 c2_2 : List Rect) (c2_3 : List Bend) (c3_0 c3_1 c3_2 c3_3 : Int) : Prop := cond (decide (t5 < (c2_0.length : Int))) ((let e0 := (c2_0.getD t5.toNat default); ((0 ≤ t5 ∧ t5 < c2_0.length) ∧ (let r1 := (sp_zan c3_0 c3_1 c3_2 c3_3 e0.X e0.Y e0.W e0.H); cond r1 (x0 t5 t5 c2_0 c2_1 c2_2 c2_3 c3_0 c3_1 c3_2 c3_3) (rec t4 (w64 (t5 + 1)) c2_0 c2_1 c2_2 c2_3 c3_0 c3_1 c3_2 c3_3))))) (x1 t4 t5 c2_0 c2_1 c2_2 c2_3 c3_0 c3_1 c3_2 c3_3)
def g_zap_c0_0 (Q : Int → Prop) (t4 t5 : Int) (c2_0 c2_1 c2_2 : List Rect) (c2_3 : List Bend) (c3_0 c3_1 c3_2 c3_3 : Int) : Prop := Q t4
def g_zap_c0_1 (Q : Int → Prop) (t4 t5 : Int) (c2_0 c2_1 c2_2 : List Rect) (c2_3 : List Bend) (c3_0 c3_1 c3_2 c3_3 : Int) : Prop := Q (-1)
def w_zap_0 (F : Nat) (x0 : Int → Int → List Rect → List Rect → List Rect → List Bend → Int → Int → Int → Int → Prop) (x1 : Int → Int → List Rect → List Rect → List Rect → List Bend → Int → Int → Int → Int → Prop) : Nat → Int → Int → List Rect → List Rect → List Rect → List Bend → Int → Int → Int → Int → Prop
  | 0, _, _, _, _, _, _, _, _, _, _ => False
  | n + 1, t4, t5, c2_0, c2_1, c2_2, c2_3, c3_0, c3_1, c3_2, c3_3 => g_zap_s0 (w_zap_0 F x0 x1 n) x0 x1 t4 t5 c2_0 c2_1 c2_2 c2_3 c3_0 c3_1 c3_2 c3_3
def n_zap_0 (F : Nat) (Q : Int → Prop) (t4 t5 : Int) (c2_0 c2_1 c2_2 : List Rect) (c2_3 : List Bend) (c3_0 c3_1 c3_2 c3_3 : Int) : Prop := w_zap_0 F (fun t4 t5 c2_0 c2_1 c2_2 c2_3 c3_0 c3_1 c3_2 c3_3 => g_zap_c0_0 Q t4 t5 c2_0 c2_1 c2_2 c2_3 c3_0 c3_1 c3_2 c3_3) (fun t4 t5 c2_0 c2_1 c2_2 c2_3 c3_0 c3_1 c3_2 c3_3 => g_zap_c0_1 Q t4 t5 c2_0 c2_1 c2_2 c2_3 c3_0 c3_1 c3_2 c3_3) F t4 t5 c2_0 c2_1 c2_2 c2_3 c3_0 c3_1 c3_2 c3_3
def w_zap (F : Nat) (qa qc qd : List Rect) (qb : List Bend) (a1_X a1_Y a1_W a1_H : Int) (Q : Int → Prop) : Prop := g_zap_e qa qc qd qb a1_X a1_Y a1_W a1_H Q (n_zap_0 F Q)
def M_ixf2 : Nat → Nat → Nat → Canon UU := fun o b r => cond (Nat.beq b 0) ⟨[0, 1, 4, 7, 8], [], [], [], []⟩ (⟨[], [], [], [], []⟩)
def st_ixf2_0 (t0 : List Rect) (t1_0_0 t1_0_1 t1_0_2 t1_0_3 t4 t7 t8 : Int) : ASt UU := ⟨fun u => cond (Nat.beq u 0) (.sl .rect t0) (cond (Nat.beq u 1) (.fn 45 [.ref [.int .i64 t1_0_0, .int .i64 t1_0_1, .int .i64 t1_0_2, .int .i64 t1_0_3] 0]) (cond (Nat.beq u 4) (.int .i64 t4) (cond (Nat.beq u 7) (.int .i64 t7) (cond (Nat.beq u 8) (.int .i64 t8) (.any))))), fun u => none⟩
def g_ixf2_e (l : List Rect) (r_0 r_1 r_2 r_3 : Int) (Q : Int → Prop) (i0 : List Rect → Int → Int → Int → Int → Int → Int → Int → Prop) : Prop := i0 l r_0 r_1 r_2 r_3 0 (l.length : Int) 0
def g_ixf2_s0 (rec : List Rect → Int → Int → Int → Int → Int → Int → Int → Prop) (x0 : List Rect → Int → Int → Int → Int → Int → Int → Int → Prop) (x1 : List Rect → Int → Int → Int → Int → Int → Int → Int → Prop) (t0 : List Rect) (t1_0_0 t1_0_1 t1_0_2 t1_0_3 t4 t7 t8 : Int) : Prop := cond (decide (t8 < t7)) ((let e0 := (t0.getD t8.toNat default); (let r1 := (sp_fh1 e0.X e0.Y e0.W e0.H t1_0_0 t1_0_1 t1_0_2 t1_0_3); ((0 ≤ t8 ∧ t8 < t0.length) ∧ cond r1 (x0 t0 t1_0_0 t1_0_1 t1_0_2 t1_0_3 t8 t7 t8) (rec t0 t1_0_0 t1_0_1 t1_0_2 t1_0_3 t4 t7 (w64 (t8 + 1))))))) (x1 t0 t1_0_0 t1_0_1 t1_0_2 t1_0_3 t4 t7 t8)
def g_ixf2_c0_0 (Q : Int → Prop) (t0 : List Rect) (t1_0_0 t1_0_1 t1_0_2 t1_0_3 t4 t7 t8 : Int) : Prop := Q t4
def g_ixf2_c0_1 (Q : Int → Prop) (t0 : List Rect) (t1_0_0 t1_0_1 t1_0_2 t1_0_3 t4 t7 t8 : Int) : Prop := Q (-1)
def w_ixf2_0 (F : Nat) (x0 : List Rect → Int → Int → Int → Int → Int → Int → Int → Prop) (x1 : List Rect → Int → Int → Int → Int → Int → Int → Int → Prop) : Nat → List Rect → Int → Int → Int → Int → Int → Int → Int → Prop
  | 0, _, _, _, _, _, _, _, _ => False
  | n + 1, t0, t1_0_0, t1_0_1, t1_0_2, t1_0_3, t4, t7, t8 => g_ixf2_s0 (w_ixf2_0 F x0 x1 n) x0 x1 t0 t1_0_0 t1_0_1 t1_0_2 t1_0_3 t4 t7 t8
def n_ixf2_0 (F : Nat) (Q : Int → Prop) (t0 : List Rect) (t1_0_0 t1_0_1 t1_0_2 t1_0_3 t4 t7 t8 : Int) : Prop := w_ixf2_0 F (fun t0 t1_0_0 t1_0_1 t1_0_2 t1_0_3 t4 t7 t8 => g_ixf2_c0_0 Q t0 t1_0_0 t1_0_1 t1_0_2 t1_0_3 t4 t7 t8) (fun t0 t1_0_0 t1_0_1 t1_0_2 t1_0_3 t4 t7 t8 => g_ixf2_c0_1 Q t0 t1_0_0 t1_0_1 t1_0_2 t1_0_3 t4 t7 t8) F t0 t1_0_0 t1_0_1 t1_0_2 t1_0_3 t4 t7 t8
def w_ixf2 (F : Nat) (l : List Rect) (r_0 r_1 r_2 r_3 : Int) (Q : Int → Prop) : Prop := g_ixf2_e l r_0 r_1 r_2 r_3 Q (n_ixf2_0 F Q)
def M_zv : Nat → Nat → Nat → Canon UU := fun o b r => cond (Nat.beq b 0) ⟨[0, 1, 4, 5], [], [], [], []⟩ (⟨[], [], [], [], []⟩)
def st_zv_0 (t0 t1 : List Face) (t4 : Bool) (t5 : Int) : ASt UU := ⟨fun u => cond (Nat.beq u 0) (.sl .face t0) (cond (Nat.beq u 1) (.sl .face t1) (cond (Nat.beq u 4) (.bool t4) (cond (Nat.beq u 5) (.int .i64 t5) (.any)))), fun u => none⟩
def g_zv_e (a0 a1 : List Face) (Q : Bool → Prop) (i0 : List Face → List Face → Bool → Int → Prop) : Prop := cond ((a0.length : Int) != (a1.length : Int)) (Q false) (i0 a0 a1 false 0)
def g_zv_s0 (rec : List Face → List Face → Bool → Int → Prop) (x0 : List Face → List Face → Bool → Int → Prop) (x1 : List Face → List Face → Bool → Int → Prop) (t0 t1 : List Face) (t4 : Bool) (t5 : Int) : Prop := cond (decide (t5 < (t0.length : Int))) ((let e0 := (t0.getD t5.toNat default); ((0 ≤ t5 ∧ t5 < t0.length) ∧ (let e1 := (t1.getD t5.toNat default); ((0 ≤ t5 ∧ t5 < t1.length) ∧ cond (!(((e0.Origin_X == e1.Origin_X) && ((e0.Origin_Y == e1.Origin_Y) && ((e0.Origin_Z == e1.Origin_Z) && true))) && (((e0.U_X == e1.U_X) && ((e0.U_Y == e1.U_Y) && ((e0.U_Z == e1.U_Z) && true))) && (((e0.V_X == e1.V_X) && ((e0.V_Y == e1.V_Y) && ((e0.V_Z == e1.V_Z) && true))) && ((e0.W == e1.W) && ((e0.H == e1.H) && true)))))) (x0 t0 t1 false t5) (rec t0 t1 t4 (w64 (t5 + 1)))))))) (x1 t0 t1 t4 t5)
def g_zv_c0_0 (Q : Bool → Prop) (t0 t1 : List Face) (t4 : Bool) (t5 : Int) : Prop := Q t4
def g_zv_c0_1 (Q : Bool → Prop) (t0 t1 : List Face) (t4 : Bool) (t5 : Int) : Prop := Q true
def w_zv_0 (F : Nat) (x0 : List Face → List Face → Bool → Int → Prop) (x1 : List Face → List Face → Bool → Int → Prop) : Nat → List Face → List Face → Bool → Int → Prop
  | 0, _, _, _, _ => False
  | n + 1, t0, t1, t4, t5 => g_zv_s0 (w_zv_0 F x0 x1 n) x0 x1 t0 t1 t4 t5
def n_zv_0 (F : Nat) (Q : Bool → Prop) (t0 t1 : List Face) (t4 : Bool) (t5 : Int) : Prop := w_zv_0 F (fun t0 t1 t4 t5 => g_zv_c0_0 Q t0 t1 t4 t5) (fun t0 t1 t4 t5 => g_zv_c0_1 Q t0 t1 t4 t5) F t0 t1 t4 t5
def w_zv (F : Nat) (a0 a1 : List Face) (Q : Bool → Prop) : Prop := g_zv_e a0 a1 Q (n_zv_0 F Q)
end
end Go.Proofs.YteffpgliiilnjaaGreatDoor
namespace Go.Proofs.YteffpgliiilnjaaGreatDoor
open Go.Vm Go.RowKit
set_option linter.unusedVariables false
noncomputable section
theorem wA (o p r : Int) : w64 (w64 (o + p) + r) = w64 (o + w64 (p + r)) := by
  simp only [IntKind.wrap, IntKind.bits, IntKind.signed]
  simp
  omega
theorem wB (p r : Int) : w64 (w64 (0 + p) + r) = w64 (p + r) := by
  simp only [IntKind.wrap, IntKind.bits, IntKind.signed]
  simp
  omega
theorem place_sum (y0 y1 y2 y3 y4 y5 y6 y7 y8 y9 y10 y11 y12 y13 y14 y15 y16 y17 a b : Int) : sp_zc y0 y1 y2 y3 y4 y5 y6 y7 y8 y9 y10 y11 y12 y13 y14 y15 y16 y17 a b = sp_zbu y0 y1 y2 a y3 y4 y5 b y6 y7 y8 := by
  unfold sp_zc sp_zbu sp_zam sp_zad
  dsimp only
  rw [wA, wA, wA]
theorem point_place (y0 y1 y2 y3 y4 y5 y6 y7 y8 y9 y10 y11 y12 y13 y14 y15 y16 y17 a b : Int) : sp_zm y0 y1 y2 y3 y4 y5 y6 y7 y8 y9 y10 y11 y12 y13 y14 y15 y16 y17 a b = sp_zc y0 y1 y2 y3 y4 y5 y6 y7 y8 y9 y10 y11 y12 y13 y14 y15 y16 y17 (sp_zd y0 y1 y2 y3 y4 y5 y6 y7 y8 y9 y10 y11 y12 y13 y14 y15 y16 y17 a b).1 (sp_zd y0 y1 y2 y3 y4 y5 y6 y7 y8 y9 y10 y11 y12 y13 y14 y15 y16 y17 a b).2 := by
  rw [place_sum]
  rfl
theorem dir_turned (y0 y1 y2 y3 y4 y5 y6 y7 y8 y9 y10 y11 y12 y13 y14 y15 y16 y17 a b : Int) : sp_za y0 y1 y2 y3 y4 y5 y6 y7 y8 y9 y10 y11 y12 y13 y14 y15 y16 y17 a b = sp_zb y0 y1 y2 y3 y4 y5 y6 y7 y8 y9 y10 y11 y12 y13 y14 y15 y16 y17 a b := by
  unfold sp_za sp_zb sp_zbu sp_zam sp_zad sp_zbt
  dsimp only
  rw [wB, wB, wB]
theorem norm_norm (y0 y1 y2 y3 y4 y5 y6 y7 y8 y9 y10 : Int) : sp_zat y0 y1 y2 y3 y4 y5 y6 y7 y8 y9 y10 = sp_zax y0 y1 y2 y3 y4 y5 y6 y7 y8 y9 y10 := rfl
theorem outward_eq (r p : Rect) (a b c d : Int) (hr : vR r = true) (hp : vR p = true) :
    ((sp_zq r.X r.Y r.W r.H a b c d).2.2 && sp_zz p.X p.Y p.W p.H a b c d (sp_zq r.X r.Y r.W r.H a b c d).1 (sp_zq r.X r.Y r.W r.H a b c d).2.1) = (sp_zac a b c d r.X r.Y r.W r.H p.X p.Y p.W p.H).2.2.2 ∧
    ((sp_zac a b c d r.X r.Y r.W r.H p.X p.Y p.W p.H).2.2.2 = true → (sp_zac a b c d r.X r.Y r.W r.H p.X p.Y p.W p.H).1 = (sp_zq r.X r.Y r.W r.H a b c d).1 ∧ (sp_zac a b c d r.X r.Y r.W r.H p.X p.Y p.W p.H).2.1 = (sp_zq r.X r.Y r.W r.H a b c d).2.1 ∧
      (sp_zac a b c d r.X r.Y r.W r.H p.X p.Y p.W p.H).2.2.1 = cond ((sp_zq r.X r.Y r.W r.H a b c d).1 == 0) r.H r.W) := by
  have h1 := (vR_iff r).1 hr
  have h2 := (vR_iff p).1 hp
  obtain ⟨X, Yy, W, H⟩ := r
  obtain ⟨P, Q, V, G⟩ := p
  dsimp only at h1 h2 ⊢
  unfold sp_zq sp_zac sp_zz
  rw [w64_of (n := X + W) (by omega) (by omega), w64_of (n := Yy + H) (by omega) (by omega), w64_of (n := P + V) (by omega) (by omega), w64_of (n := Q + G) (by omega) (by omega)]
  simp only [Bool.cond_eq_ite, Bool.and_eq_true, Bool.and_true, beq_iff_eq, decide_eq_true_eq]
  clear hr hp
  by_cases c1 : a = X ∧ b = Yy ∧ c = X + W ∧ d = Yy
  · rw [if_pos c1]
    simp only [show ¬ ((0 : Int) = 1 ∧ (1 : Int) = 0) by omega, show ¬ ((0 : Int) = -1 ∧ (1 : Int) = 0) by omega, and_self, if_true, if_false]
    repeat' split
    all_goals first
      | (exfalso; omega)
      | exact absurd True.intro ‹¬ True›
      | exact ⟨by rw [Bool.eq_iff_iff]; simp only [Bool.true_and, Bool.and_eq_true, beq_iff_eq, decide_eq_true_eq, Bool.false_eq_true, eq_self, iff_true, iff_false]; omega, fun h => by first | exact ⟨rfl, rfl, rfl⟩ | cases h⟩
  · rw [if_neg c1]
    by_cases c2 : a = X ∧ b = Yy + H ∧ c = X + W ∧ d = Yy + H
    · rw [if_pos c2]
      simp only [show ¬ ((0 : Int) = 1 ∧ (-1 : Int) = 0) by omega, show ¬ ((0 : Int) = -1 ∧ (-1 : Int) = 0) by omega, if_false]
      repeat' split
      all_goals first
        | (exfalso; omega)
        | exact absurd True.intro ‹¬ True›
        | exact ⟨by rw [Bool.eq_iff_iff]; simp only [Bool.true_and, Bool.and_eq_true, beq_iff_eq, decide_eq_true_eq, Bool.false_eq_true, eq_self, iff_true, iff_false]; omega, fun h => by first | exact ⟨rfl, rfl, rfl⟩ | cases h⟩
    · rw [if_neg c2]
      by_cases c3 : a = X ∧ b = Yy ∧ c = X ∧ d = Yy + H
      · rw [if_pos c3]
        simp only [and_self, if_true]
        repeat' split
        all_goals first
          | (exfalso; omega)
          | exact absurd True.intro ‹¬ True›
          | exact ⟨by rw [Bool.eq_iff_iff]; simp only [Bool.true_and, Bool.and_eq_true, beq_iff_eq, decide_eq_true_eq, Bool.false_eq_true, eq_self, iff_true, iff_false]; omega, fun h => by first | exact ⟨rfl, rfl, rfl⟩ | cases h⟩
      · rw [if_neg c3]
        by_cases c4 : a = X + W ∧ b = Yy ∧ c = X + W ∧ d = Yy + H
        · rw [if_pos c4]
          simp only [and_self, if_true]
          repeat' split
          all_goals first
            | (exfalso; omega)
            | exact absurd True.intro ‹¬ True›
            | exact ⟨by rw [Bool.eq_iff_iff]; simp only [Bool.true_and, Bool.and_eq_true, beq_iff_eq, decide_eq_true_eq, Bool.false_eq_true, eq_self, iff_true, iff_false]; omega, fun h => by first | exact ⟨rfl, rfl, rfl⟩ | cases h⟩
        · rw [if_neg c4]
          simp only [Bool.false_and]
          repeat' split
          all_goals first
            | (exfalso; omega)
            | exact absurd True.intro ‹¬ True›
            | exact ⟨rfl, fun h => by cases h⟩
end
end Go.Proofs.YteffpgliiilnjaaGreatDoor
namespace Go.Proofs.YteffpgliiilnjaaGreatDoor
open Go.Vm Go.RowKit
set_option linter.unusedVariables false
noncomputable section
theorem scan (m : Nat) (p : Nat → Bool) (W : Nat → Int → Prop) (Z : Bool → Prop)
    (hs : ∀ n i : Nat, i < m → (∀ j, j < i → p j = true) → (p i = false → Z false) → (p i = true → W n ((i + 1 : Nat) : Int)) → W (n + 1) (i : Int))
    (he : ∀ n, (∀ j, j < m → p j = true) → Z true → W (n + 1) (m : Int)) (hZ : Z ((List.range m).all p)) : ∀ n i : Nat, i ≤ m → m < n + i → (∀ j, j < i → p j = true) → W n (i : Int) := by
  intro n
  induction n with
  | zero => intro i h1 h2; omega
  | succ n ih =>
    intro i h1 h2 h3
    by_cases h : i < m
    · refine hs n i h h3 (fun q => ?_) (fun q => ih (i + 1) (by omega) (by omega) fun j hj => ?_)
      · have e : (List.range m).all p = false := by
          rw [Bool.eq_false_iff]
          intro r
          rw [List.all_eq_true] at r
          have := r i (List.mem_range.2 h)
          rw [q] at this
          cases this
        rw [e] at hZ
        exact hZ
      · rcases Nat.lt_or_ge j i with r | r
        · exact h3 j r
        · rw [show j = i by omega]
          exact q
    · have e : i = m := by omega
      subst e
      refine he n h3 ?_
      have e : (List.range i).all p = true := by
        rw [List.all_eq_true]
        exact fun j hj => h3 j (List.mem_range.1 hj)
      rw [e] at hZ
      exact hZ
def badBend (B : List Bend) (i : Nat) : Bool :=
  ((((((B.getD i default).Flange != (i : Int)) || (decide ((B.getD i default).Parent < 0))) || (decide ((i : Int) < (B.getD i default).Parent))) || (((((B.getD i default).Angle != 90) && ((B.getD i default).Angle != (-90))) && ((B.getD i default).Angle != 180)) && ((B.getD i default).Angle != (-180)))) || (decide ((B.getD i default).Deduct < 0))) || (decide (1048576 < (B.getD i default).Deduct))
def headBad (R : List Rect) (B : List Bend) (k : Int) : Bool :=
  ((((B.length : Int) != (w64 ((R.length : Int) - 1))) || (decide (5 < (B.length : Int)))) || (decide (k < 0))) || (decide ((w64 (1 * 2 ^ (min ((B.length : Int).toNat) 64))) ≤ k))
def wrongB (R : List Rect) (B : List Bend) (k : Int) : Bool := headBad R B k || !((List.range B.length).all fun i => !badBend B i)
def shapeB (R : List Rect) (B : List Bend) (i : Nat) : Bool :=
  (sp_zac (B.getD i default).qae (B.getD i default).qad (B.getD i default).qaf (B.getD i default).qag (R.getD (i + 1) default).X (R.getD (i + 1) default).Y (R.getD (i + 1) default).W (R.getD (i + 1) default).H (R.getD (B.getD i default).Parent.toNat default).X (R.getD (B.getD i default).Parent.toNat default).Y (R.getD (B.getD i default).Parent.toNat default).W (R.getD (B.getD i default).Parent.toNat default).H).2.2.2
def shapes (R : List Rect) (B : List Bend) : Bool := (List.range B.length).all (shapeB R B)
def err8 (R C M : List Rect) (B : List Bend) (k : Int) : Int := bif !(wholeB R C M B) then 1 else bif wrongB R B k then 1 else bif shapes R B then 0 else 6
theorem whole_facts {R C M : List Rect} {B : List Bend} (h : wholeB R C M B = true) : R.length ≠ 0 ∧ R.length ≤ 48 ∧ (∀ r ∈ R, vR r = true) ∧ C.length ≤ 48 ∧ M.length ≤ 48 := by
  unfold wholeB okL at h
  simp only [Bool.and_eq_true, decide_eq_true_eq, List.all_eq_true] at h
  exact ⟨h.1.1, h.1.2.1.1, h.1.2.1.2, h.1.2.2.1.1, h.1.2.2.2.1⟩
theorem head_facts {R : List Rect} {B : List Bend} {k : Int} (h0 : R.length ≠ 0) (h1 : R.length ≤ 48) (h : headBad R B k = false) : R.length = B.length + 1 ∧ B.length ≤ 5 := by
  unfold headBad at h
  simp only [Bool.or_eq_false_iff, decide_eq_false_iff_not, bne_eq_false_iff_eq] at h
  rw [w64_of (n := (R.length : Int) - 1) (by omega) (by omega)] at h
  omega
theorem bend_facts {B : List Bend} {i : Nat} (h : badBend B i = false) : 0 ≤ (B.getD i default).Parent ∧ (B.getD i default).Parent ≤ (i : Int) := by
  unfold badBend at h
  simp only [Bool.or_eq_false_iff, decide_eq_false_iff_not] at h
  omega
theorem contI_eq (x : Int) : (!(sp_zbw [90, (-90), 180, (-180)] x)) = ((((x != 90) && (x != (-90))) && (x != 180)) && (x != (-180))) := by
  unfold sp_zbw sp_zbv
  rw [idxI_ge _ _ 0 (by omega)]
  unfold bne
  simp only [List.any_cons, List.any_nil, Bool.or_false, Bool.not_or, Bool.and_assoc]
theorem pre_Bounds {R C M : List Rect} {B : List Bend} (h : sI B) : pre_zbf R C M B := by
  refine ⟨h, ?_⟩
  unfold sp_zbo
  cases hw : wholeB R C M B
  · trivial
  · have := whole_facts hw
    exact ⟨show R.length ≤ 1000 by omega, fun e => this.1 (by rw [e]; rfl), this.2.2.1⟩
theorem err_Bounds (R C M : List Rect) (B : List Bend) : (sp_zbf R C M B).2.2.2.2 = bif wholeB R C M B then 0 else 1 := by
  unfold sp_zbf sp_zbo
  cases wholeB R C M B <;> rfl
def pre_zh (R C M : List Rect) (B : List Bend) (k : Int) : Prop := sI B
def sp_zh (R C M : List Rect) (B : List Bend) (k : Int) : Int := err8 R C M B k
theorem lp_vf0 (F : Nat) (x0 x1 : Int → List Bend → Int → Int → List Rect → List Rect → List Rect → List Bend → Prop) (R C M : List Rect) (B : List Bend) (hB : sI B) (Z : Bool → Prop)
    (hX : Z false → ∀ j, x0 1 B B.length j R C M B) (hY : (∀ j, j < B.length → badBend B j = false) → Z true → x1 0 B B.length B.length R C M B) (n : Nat) (hn : B.length < n) (hZ : Z ((List.range B.length).all fun i => !badBend B i)) :
    w_zh_0 F x0 x1 n 0 B B.length ((0 : Nat) : Int) R C M B := by
  refine scan B.length (fun i => !badBend B i) (fun n i => w_zh_0 F x0 x1 n 0 B B.length i R C M B) Z (fun n i hi hall hF hT => ?_) (fun n hall hT => ?_) hZ n 0 (by omega) (by omega) (fun j hj => by omega)
  · show g_zh_s0 (w_zh_0 F x0 x1 n) x0 x1 0 B B.length i R C M B
    unfold g_zh_s0
    rw [dec_t (show (i : Int) < B.length by omega), cond_true, Int.toNat_natCast]
    refine ⟨⟨by omega, by omega⟩, fun _ => show 4 ≤ 1000000 by decide, ?_⟩
    rw [contI_eq, w64_s hi hB]
    change cond (badBend B i) _ _
    cases hb : badBend B i with
    | true => exact hX (hF (by rw [hb]; rfl)) _
    | false => exact hT (by rw [hb]; rfl)
  · show g_zh_s0 (w_zh_0 F x0 x1 n) x0 x1 0 B B.length B.length R C M B
    unfold g_zh_s0
    rw [dec_f (by omega), cond_false]
    exact hY (fun j hj => by have := hall j hj; simpa using this) hT
theorem getD_mem' {α : Type} [Inhabited α] (l : List α) (i : Nat) (h : i < l.length) : l.getD i default ∈ l := by simp [List.getD, h]
theorem lp_vf1 (F : Nat) (x0 x1 : Int → List Bend → Int → Int → List Rect → List Rect → List Rect → List Bend → Prop) (R C M : List Rect) (B : List Bend) (hl : R.length = B.length + 1) (h5 : B.length ≤ 5) (hR : ∀ r ∈ R, vR r = true) (hb : ∀ j, j < B.length → badBend B j = false) (Z : Bool → Prop)
    (hX : Z false → ∀ j, x0 6 B B.length j R C M B) (hY : Z true → x1 0 B B.length B.length R C M B) (n : Nat) (hn : B.length < n) (hZ : Z (shapes R B)) :
    w_zh_1 F x0 x1 n 0 B B.length ((0 : Nat) : Int) R C M B := by
  refine scan B.length (shapeB R B) (fun n i => w_zh_1 F x0 x1 n 0 B B.length i R C M B) Z (fun n i hi hall hF hT => ?_) (fun n hall hT => ?_) hZ n 0 (by omega) (by omega) (fun j hj => by omega)
  · show g_zh_s1 (w_zh_1 F x0 x1 n) x0 x1 0 B B.length i R C M B
    unfold g_zh_s1
    have hp := bend_facts (hb i hi)
    rw [dec_t (show (i : Int) < B.length by omega), cond_true, w64_s hi (by omega), Int.toNat_natCast, Int.toNat_natCast]
    refine ⟨⟨by omega, by omega⟩, ⟨by omega, by omega⟩, ?_⟩
    have ho := outward_eq (R.getD (i + 1) default) (R.getD (B.getD i default).Parent.toNat default) (B.getD i default).qae (B.getD i default).qad (B.getD i default).qaf (B.getD i default).qag (hR _ (getD_mem' R (i + 1) (by omega))) (hR _ (getD_mem' R _ (by omega)))
    have hsh : (sp_zac (B.getD i default).qae (B.getD i default).qad (B.getD i default).qaf (B.getD i default).qag (R.getD (i + 1) default).X (R.getD (i + 1) default).Y (R.getD (i + 1) default).W (R.getD (i + 1) default).H (R.getD (B.getD i default).Parent.toNat default).X (R.getD (B.getD i default).Parent.toNat default).Y (R.getD (B.getD i default).Parent.toNat default).W (R.getD (B.getD i default).Parent.toNat default).H).2.2.2 = shapeB R B i := rfl
    rw [hsh] at ho
    have ho := ho.1
    dsimp only
    generalize sp_zq (R.getD (i + 1) default).X (R.getD (i + 1) default).Y (R.getD (i + 1) default).W (R.getD (i + 1) default).H (B.getD i default).qae (B.getD i default).qad (B.getD i default).qaf (B.getD i default).qag = o at ho ⊢
    cases h1 : o.2.2 with
    | false =>
      rw [h1, Bool.false_and] at ho
      exact hX (hF ho.symm) _
    | true =>
      rw [h1, Bool.true_and] at ho
      simp only [Bool.not_true, cond_false]
      refine ⟨⟨by omega, by omega⟩, ?_⟩
      rw [ho]
      cases h2 : shapeB R B i with
      | false => exact hX (hF h2) _
      | true => exact hT h2
  · show g_zh_s1 (w_zh_1 F x0 x1 n) x0 x1 0 B B.length B.length R C M B
    unfold g_zh_s1
    rw [dec_f (by omega), cond_false]
    exact hY hT
theorem ok_zh (qa qc qd : List Rect) (qb : List Bend) (a1 : Int) (h : pre_zh qa qc qd qb a1) : ∃ F, ∀ Q : Int → Prop, Q (sp_zh qa qc qd qb a1) → w_zh F qa qc qd qb a1 Q := by
  refine ⟨qb.length + 1, fun Q hQ => ?_⟩
  unfold w_zh g_zh_e
  unfold sp_zh err8 at hQ
  refine ⟨pre_Bounds h, ?_⟩
  rw [err_Bounds]
  cases hw : wholeB qa qc qd qb with
  | false =>
    rw [hw] at hQ
    exact hQ
  | true =>
  rw [hw] at hQ
  have wf := whole_facts hw
  refine ⟨fun _ => by omega, ?_⟩
  unfold wrongB at hQ
  change cond (headBad qa qb a1) _ _
  cases hh : headBad qa qb a1 with
  | true =>
    rw [hh] at hQ
    exact hQ
  | false =>
  rw [hh] at hQ
  have hf := head_facts wf.1 wf.2.1 hh
  refine lp_vf0 (qb.length + 1) _ _ qa qc qd qb h (fun t => Q (bif !t then 1 else bif shapes qa qb then 0 else 6)) (fun q j => q) (fun hb q => ?_) _ (by omega) ?_
  · refine lp_vf1 (qb.length + 1) _ _ qa qc qd qb hf.1 hf.2 wf.2.2.1 hb (fun t => Q (bif t then 0 else 6)) (fun q j => q) (fun q => q) _ (by omega) q
  · exact hQ
def pre_zbg (R C M : List Rect) (B : List Bend) (k : Int) : Prop := sI B
def sp_zbg (R C M : List Rect) (B : List Bend) (k : Int) : Bool := wrongB R B k
theorem u64_nat {i : Nat} (h : (i : Int) ≤ 9223372036854775807) : IntKind.u64.wrap (i : Int) = i := by
  simp only [IntKind.wrap, IntKind.bits, IntKind.signed]
  simp
  omega
theorem ok_zbg (qa qc qd : List Rect) (qb : List Bend) (a1 : Int) (h : pre_zbg qa qc qd qb a1) : ∃ F, ∀ Q : Bool → Prop, Q (sp_zbg qa qc qd qb a1) → w_zbg F qa qc qd qb a1 Q := by
  refine ⟨qb.length + 1, fun Q hQ => ?_⟩
  unfold w_zbg g_zbg_e
  unfold sp_zbg wrongB at hQ
  rw [u64_nat h]
  refine ⟨fun _ => by omega, ?_⟩
  change cond (headBad qa qb a1) _ _
  cases hh : headBad qa qb a1 with
  | true =>
    rw [hh] at hQ
    exact hQ
  | false =>
  rw [hh, Bool.false_or] at hQ
  rw [cond_false]
  refine scan qb.length (fun i => !badBend qb i) (fun n i => w_zbg_0 (qb.length + 1) (fun t4 t5 t6 c2_0 c2_1 c2_2 c2_3 => g_zbg_c0_0 Q t4 t5 t6 c2_0 c2_1 c2_2 c2_3) (fun t4 t5 t6 c2_0 c2_1 c2_2 c2_3 => g_zbg_c0_1 Q t4 t5 t6 c2_0 c2_1 c2_2 c2_3) n false qb.length i qa qc qd qb) (fun t => Q (!t)) (fun n i hi hall hF hT => ?_) (fun n hall hT => ?_) hQ (qb.length + 1) 0 (by omega) (by omega) (fun j hj => by omega)
  · unfold w_zbg_0 g_zbg_s0
    rw [dec_t (show (i : Int) < qb.length by omega), cond_true, Int.toNat_natCast]
    refine ⟨⟨by omega, by omega⟩, ?_⟩
    rw [w64_s hi h]
    change cond (badBend qb i) _ _
    cases hb : badBend qb i with
    | true => exact hF (by rw [hb]; rfl)
    | false => exact hT (by rw [hb]; rfl)
  · unfold w_zbg_0 g_zbg_s0
    rw [dec_f (by omega), cond_false]
    exact hT
def childF (p : Frm) (r : Rect) (b : Bend) (t : Bool) : Frm :=
  let z := sp_zae p.qaw p.qax p.qay p.qaq p.qar p.qas p.qat p.qau p.qav p.Face_W p.Face_H p.begin_X p.begin_Y p.u_X p.u_Y p.v_X p.v_Y p.ahead r.X r.Y r.W r.H b.Flange b.Parent b.qae b.qad b.qaf b.qag b.Angle b.Deduct t
  Frm.mk z.1 z.2.1 z.2.2.1 z.2.2.2.1 z.2.2.2.2.1 z.2.2.2.2.2.1 z.2.2.2.2.2.2.1 z.2.2.2.2.2.2.2.1 z.2.2.2.2.2.2.2.2.1 z.2.2.2.2.2.2.2.2.2.1 z.2.2.2.2.2.2.2.2.2.2.1 z.2.2.2.2.2.2.2.2.2.2.2.1 z.2.2.2.2.2.2.2.2.2.2.2.2.1 z.2.2.2.2.2.2.2.2.2.2.2.2.2.1 z.2.2.2.2.2.2.2.2.2.2.2.2.2.2.1 z.2.2.2.2.2.2.2.2.2.2.2.2.2.2.2.1 z.2.2.2.2.2.2.2.2.2.2.2.2.2.2.2.2.1 z.2.2.2.2.2.2.2.2.2.2.2.2.2.2.2.2.2
def bitAt (k : Int) (i : Nat) : Bool := (bandI .i64 (Int.fdiv k (2 ^ (min i 64))) 1) == 1
def base0 (R : List Rect) : Frm := Frm.mk (R.getD 0 default).X (R.getD 0 default).Y 0 1 0 0 0 1 0 (R.getD 0 default).W (R.getD 0 default).H (R.getD 0 default).X (R.getD 0 default).Y 1 0 0 1 0
def stepF (R : List Rect) (B : List Bend) (k : Int) (l : List Frm) (i : Nat) : Frm := childF (l.getD (B.getD i default).Parent.toNat default) (R.getD (i + 1) default) (B.getD i default) (bitAt k i)
def frs (R : List Rect) (B : List Bend) (k : Int) : Nat → List Frm
  | 0 => [base0 R]
  | i + 1 => frs R B k i ++ [stepF R B k (frs R B k i) i]
theorem frs_len (R : List Rect) (B : List Bend) (k : Int) : ∀ i, (frs R B k i).length = i + 1
  | 0 => rfl
  | i + 1 => by
    unfold frs
    rw [List.length_append, frs_len R B k i]
    rfl
def pre_zab (R C M : List Rect) (B : List Bend) (k : Int) : Prop := R.length = B.length + 1 ∧ B.length ≤ 5 ∧ ∀ j, j < B.length → badBend B j = false
def sp_zab (R C M : List Rect) (B : List Bend) (k : Int) : List Frm := frs R B k B.length
theorem lp_frames (F : Nat) (x0 : Int → List Bend → Int → Int → List Rect → List Rect → List Rect → List Bend → List Frm → Prop) (R C M : List Rect) (B : List Bend) (k : Int) (h : pre_zab R C M B k) (hx : x0 k B B.length B.length R C M B (frs R B k B.length)) : ∀ n i : Nat, i ≤ B.length → B.length < n + i →
    w_zab_0 F x0 n k B B.length (i : Int) R C M B (frs R B k i) := by
  obtain ⟨hl, h5, hb⟩ := h
  intro n
  induction n with
  | zero => intro i h1 h2; omega
  | succ n ih =>
    intro i h1 h2
    show g_zab_s0 (w_zab_0 F x0 n) x0 k B B.length i R C M B (frs R B k i)
    unfold g_zab_s0
    by_cases hi : i < B.length
    · have hp := bend_facts (hb i hi)
      have hL := frs_len R B k i
      rw [dec_t (show (i : Int) < B.length by omega), cond_true, w64_s hi (by omega), Int.toNat_natCast, Int.toNat_natCast]
      refine ⟨⟨by omega, by omega⟩, ⟨by omega, by rw [hL]; omega⟩, ⟨by omega, by omega⟩, by omega, ?_, ?_⟩
      · rw [hL]
        simp only [List.length_cons, List.length_nil]
        omega
      · exact ih (i + 1) (by omega) (by omega)
    · have e : i = B.length := by omega
      rw [dec_f (by omega), cond_false, e]
      exact hx
theorem ok_zab (qa qc qd : List Rect) (qb : List Bend) (a1 : Int) (h : pre_zab qa qc qd qb a1) : ∃ F, ∀ Q : List Frm → Prop, Q (sp_zab qa qc qd qb a1) → w_zab F qa qc qd qb a1 Q := by
  refine ⟨qb.length + 1, fun Q hQ => ?_⟩
  unfold w_zab g_zab_e
  refine ⟨⟨by omega, by have := h.1; omega⟩, ?_⟩
  exact lp_frames (qb.length + 1) _ qa qc qd qb a1 h hQ (qb.length + 1) 0 (by omega) (by omega)
def pre_zap (R C M : List Rect) (B : List Bend) (a b c d : Int) : Prop := R.length ≤ 1000000
def sp_zap (R C M : List Rect) (B : List Bend) (a b c d : Int) : Int := idxI (fun r => sp_zan a b c d r.X r.Y r.W r.H) R 0
theorem ok_zap (qa qc qd : List Rect) (qb : List Bend) (a1_X a1_Y a1_W a1_H : Int) (h : pre_zap qa qc qd qb a1_X a1_Y a1_W a1_H) : ∃ F, ∀ Q : Int → Prop, Q (sp_zap qa qc qd qb a1_X a1_Y a1_W a1_H) → w_zap F qa qc qd qb a1_X a1_Y a1_W a1_H Q := by
  refine ⟨qa.length + 1, fun Q hQ => ?_⟩
  have key : ∀ (n i : Nat) (t4 : Int), i ≤ qa.length → qa.length < n + i → Q (idxI (fun r : Rect => sp_zan a1_X a1_Y a1_W a1_H r.X r.Y r.W r.H) (qa.drop i) i) → w_zap_0 (qa.length + 1) (fun t4 t5 c2_0 c2_1 c2_2 c2_3 c3_0 c3_1 c3_2 c3_3 => g_zap_c0_0 Q t4 t5 c2_0 c2_1 c2_2 c2_3 c3_0 c3_1 c3_2 c3_3) (fun t4 t5 c2_0 c2_1 c2_2 c2_3 c3_0 c3_1 c3_2 c3_3 => g_zap_c0_1 Q t4 t5 c2_0 c2_1 c2_2 c2_3 c3_0 c3_1 c3_2 c3_3) n t4 i qa qc qd qb a1_X a1_Y a1_W a1_H :=
    fun n i t4 => idx_loop qa (fun r : Rect => sp_zan a1_X a1_Y a1_W a1_H r.X r.Y r.W r.H) h Q (fun n i => w_zap_0 (qa.length + 1) (fun t4 t5 c2_0 c2_1 c2_2 c2_3 c3_0 c3_1 c3_2 c3_3 => g_zap_c0_0 Q t4 t5 c2_0 c2_1 c2_2 c2_3 c3_0 c3_1 c3_2 c3_3) (fun t4 t5 c2_0 c2_1 c2_2 c2_3 c3_0 c3_1 c3_2 c3_3 => g_zap_c0_1 Q t4 t5 c2_0 c2_1 c2_2 c2_3 c3_0 c3_1 c3_2 c3_3) n t4 i qa qc qd qb a1_X a1_Y a1_W a1_H) (fun n i => rfl) n i
  exact key (qa.length + 1) 0 0 (by omega) (by omega) hQ
def pre_ixf2 (l : List Rect) (a b c d : Int) : Prop := l.length ≤ 1000000
def sp_ixf2 (l : List Rect) (a b c d : Int) : Int := idxI (fun r => sp_fh1 r.X r.Y r.W r.H a b c d) l 0
theorem ok_ixf2 (l : List Rect) (r_0 r_1 r_2 r_3 : Int) (h : pre_ixf2 l r_0 r_1 r_2 r_3) : ∃ F, ∀ Q : Int → Prop, Q (sp_ixf2 l r_0 r_1 r_2 r_3) → w_ixf2 F l r_0 r_1 r_2 r_3 Q := by
  refine ⟨l.length + 1, fun Q hQ => ?_⟩
  have key : ∀ (n i : Nat) (t4 : Int), i ≤ l.length → l.length < n + i → Q (idxI (fun r : Rect => sp_fh1 r.X r.Y r.W r.H r_0 r_1 r_2 r_3) (l.drop i) i) → w_ixf2_0 (l.length + 1) (fun t0 t1_0_0 t1_0_1 t1_0_2 t1_0_3 t4 t7 t8 => g_ixf2_c0_0 Q t0 t1_0_0 t1_0_1 t1_0_2 t1_0_3 t4 t7 t8) (fun t0 t1_0_0 t1_0_1 t1_0_2 t1_0_3 t4 t7 t8 => g_ixf2_c0_1 Q t0 t1_0_0 t1_0_1 t1_0_2 t1_0_3 t4 t7 t8) n l r_0 r_1 r_2 r_3 t4 l.length i :=
    fun n i t4 => idx_loop l (fun r : Rect => sp_fh1 r.X r.Y r.W r.H r_0 r_1 r_2 r_3) h Q (fun n i => w_ixf2_0 (l.length + 1) (fun t0 t1_0_0 t1_0_1 t1_0_2 t1_0_3 t4 t7 t8 => g_ixf2_c0_0 Q t0 t1_0_0 t1_0_1 t1_0_2 t1_0_3 t4 t7 t8) (fun t0 t1_0_0 t1_0_1 t1_0_2 t1_0_3 t4 t7 t8 => g_ixf2_c0_1 Q t0 t1_0_0 t1_0_1 t1_0_2 t1_0_3 t4 t7 t8) n l r_0 r_1 r_2 r_3 t4 l.length i) (fun n i => rfl) n i
  exact key (l.length + 1) 0 0 (by omega) (by omega) hQ
def pre_zv (a b : List Face) : Prop := a.length ≤ 1000000 ∧ a = b
def sp_zv (a b : List Face) : Bool := true
theorem ok_zv (a0 a1 : List Face) (h : pre_zv a0 a1) : ∃ F, ∀ Q : Bool → Prop, Q (sp_zv a0 a1) → w_zv F a0 a1 Q := by
  refine ⟨a0.length + 1, fun Q hQ => ?_⟩
  obtain ⟨hl, rfl⟩ := h
  unfold w_zv g_zv_e
  rw [show ((a0.length : Int) != (a0.length : Int)) = false by simp, cond_false]
  refine all_loop0 a0 (fun _ => true) hl (fun n i => w_zv_0 (a0.length + 1) (fun t0 t1 t4 t5 => g_zv_c0_0 Q t0 t1 t4 t5) (fun t0 t1 t4 t5 => g_zv_c0_1 Q t0 t1 t4 t5) n a0 a0 false i) (fun j => False) (fun j => Q true) (fun n i => ?_) (a0.length + 1) (by omega) (fun q j => ?_) (fun q => hQ)
  · show g_zv_s0 (w_zv_0 (a0.length + 1) (fun t0 t1 t4 t5 => g_zv_c0_0 Q t0 t1 t4 t5) (fun t0 t1 t4 t5 => g_zv_c0_1 Q t0 t1 t4 t5) n) _ _ a0 a0 false i = cond _ (_ ∧ cond _ False (w_zv_0 (a0.length + 1) (fun t0 t1 t4 t5 => g_zv_c0_0 Q t0 t1 t4 t5) (fun t0 t1 t4 t5 => g_zv_c0_1 Q t0 t1 t4 t5) n a0 a0 false (w64 (i + 1)))) _
    generalize w_zv_0 (a0.length + 1) (fun t0 t1 t4 t5 => g_zv_c0_0 Q t0 t1 t4 t5) (fun t0 t1 t4 t5 => g_zv_c0_1 Q t0 t1 t4 t5) n = V
    unfold g_zv_s0
    simp only [BEq.rfl, Bool.and_true, Bool.not_true, cond_false, ← and_assoc, and_self]
    rfl
  · rw [show a0.all (fun _ => true) = true from List.all_eq_true.2 fun _ _ => rfl] at q
    cases q
end
end Go.Proofs.YteffpgliiilnjaaGreatDoor
namespace Go.Proofs.YteffpgliiilnjaaGreatDoor
open Go.Vm Go.RowKit
set_option linter.unusedVariables false
noncomputable section
def M_zaq : Nat → Nat → Nat → Canon UU := fun o b r => cond (Nat.beq b 0) ⟨[1, 2, 4, 5, 10, 11], [2], [(.tmp 10, 183, .frr)], [], []⟩ (⟨[], [], [], [], []⟩)
def st_zaq_0 (t1 t5 t11 : Int) (c2_0 c2_1 c2_2 : List Rect) (c2_3 : List Bend) (l183 : List Frr) : ASt UU := ⟨fun u => cond (Nat.beq u 1) (.int .i64 t1) (cond (Nat.beq u 2) (.ptr 2 0) (cond (Nat.beq u 4) (.nils) (cond (Nat.beq u 5) (.int .i64 t5) (cond (Nat.beq u 10) (.osl 183 0) (cond (Nat.beq u 11) (.int .i64 t11) (.any)))))), fun u => cond (Nat.beq u 183) (some (.row .frr 0 l183)) (cond (Nat.beq u 2) (some (.cells [.sl .rect c2_0, .sl .rect c2_1, .sl .rect c2_2, .sl .bend c2_3])) (none))⟩
def g_zaq_e (qa qc qd : List Rect) (qb : List Bend) (a1 : Int) (Q : List Frr → Int → Prop) (i0 : Int → Int → Int → List Rect → List Rect → List Rect → List Bend → List Frr → Prop) : Prop := (let r0 := (sp_zav qa qc qd qb); ((pre_zav qa qc qd qb) ∧ cond (r0.2.2.2.2 != 0) (Q ([]) r0.2.2.2.2) ((let r1 := (sp_zbg qa qc qd qb a1); ((pre_zbg qa qc qd qb a1) ∧ cond r1 (Q ([]) 1) ((let e2 := (qa.getD 0 default); ((0 ≤ (0 : Int) ∧ (0 : Int) < qa.length) ∧ i0 a1 0 0 qa qc qd qb ([(Frr.mk e2.X e2.Y 0 1 0 0 0 1 0 e2.W e2.H e2.X e2.Y 1 0 0 1 0)])))))))))
def g_zaq_s0 (rec : Int → Int → Int → List Rect → List Rect → List Rect → List Bend → List Frr → Prop) (x0 : Int → Int → Int → List Rect → List Rect → List Rect → List Bend → List Frr → Prop) (x1 : Int → Int → Int → List Rect → List Rect → List Rect → List Bend → List Frr → Prop) (t1 t5 t11 : Int) (c2_0 c2_1 c2_2 : List Rect) (c2_3 : List Bend) (l183 : List Frr) : Prop := cond (decide (t11 < (c2_3.length : Int))) ((let e0 := (c2_3.getD t11.toNat default); ((0 ≤ t11 ∧ t11 < c2_3.length) ∧ (let e1 := (c2_0.getD ((w64 (t11 + 1)).toNat) default); ((0 ≤ (w64 (t11 + 1)) ∧ (w64 (t11 + 1)) < c2_0.length) ∧ (let e2 := (c2_0.getD e0.Parent.toNat default); ((0 ≤ e0.Parent ∧ e0.Parent < c2_0.length) ∧ (let r3 := (sp_zac e0.qae e0.qad e0.qaf e0.qag e1.X e1.Y e1.W e1.H e2.X e2.Y e2.W e2.H); cond (!r3.2.2.2) (x0 t1 6 t11 c2_0 c2_1 c2_2 c2_3 l183) (((0 ≤ e0.Parent ∧ e0.Parent < l183.length) ∧ cond (decide ((w64 (r3.2.1 + (w64 (0 - r3.1)))) < 0)) ((let r4 := (sp_zm ((l183.getD e0.Parent.toNat default).qan) ((l183.getD e0.Parent.toNat default).qao) ((l183.getD e0.Parent.toNat default).qap) ((l183.getD e0.Parent.toNat default).qah) ((l183.getD e0.Parent.toNat default).qai) ((l183.getD e0.Parent.toNat default).qaj) ((l183.getD e0.Parent.toNat default).qak) ((l183.getD e0.Parent.toNat default).qal) ((l183.getD e0.Parent.toNat default).qam) ((l183.getD e0.Parent.toNat default).face_W) ((l183.getD e0.Parent.toNat default).face_H) ((l183.getD e0.Parent.toNat default).at_x) ((l183.getD e0.Parent.toNat default).at_y) ((l183.getD e0.Parent.toNat default).u_x) ((l183.getD e0.Parent.toNat default).u_y) ((l183.getD e0.Parent.toNat default).v_x) ((l183.getD e0.Parent.toNat default).v_y) ((l183.getD e0.Parent.toNat default).lift) e0.qaf e0.qag); (let r5 := (sp_za ((l183.getD e0.Parent.toNat default).qan) ((l183.getD e0.Parent.toNat default).qao) ((l183.getD e0.Parent.toNat default).qap) ((l183.getD e0.Parent.toNat default).qah) ((l183.getD e0.Parent.toNat default).qai) ((l183.getD e0.Parent.toNat default).qaj) ((l183.getD e0.Parent.toNat default).qak) ((l183.getD e0.Parent.toNat default).qal) ((l183.getD e0.Parent.toNat default).qam) ((l183.getD e0.Parent.toNat default).face_W) ((l183.getD e0.Parent.toNat default).face_H) ((l183.getD e0.Parent.toNat default).at_x) ((l183.getD e0.Parent.toNat default).at_y) ((l183.getD e0.Parent.toNat default).u_x) ((l183.getD e0.Parent.toNat default).u_y) ((l183.getD e0.Parent.toNat default).v_x) ((l183.getD e0.Parent.toNat default).v_y) ((l183.getD e0.Parent.toNat default).lift) r3.2.1 (w64 (0 - r3.1))); (let v6 := Int.fdiv t1 (2 ^ (min ((IntKind.u64.wrap t11).toNat) 64)); ((0 ≤ (IntKind.u64.wrap t11)) ∧ (let r7 := (sp_za ((l183.getD e0.Parent.toNat default).qan) ((l183.getD e0.Parent.toNat default).qao) ((l183.getD e0.Parent.toNat default).qap) ((l183.getD e0.Parent.toNat default).qah) ((l183.getD e0.Parent.toNat default).qai) ((l183.getD e0.Parent.toNat default).qaj) ((l183.getD e0.Parent.toNat default).qak) ((l183.getD e0.Parent.toNat default).qal) ((l183.getD e0.Parent.toNat default).qam) ((l183.getD e0.Parent.toNat default).face_W) ((l183.getD e0.Parent.toNat default).face_H) ((l183.getD e0.Parent.toNat default).at_x) ((l183.getD e0.Parent.toNat default).at_y) ((l183.getD e0.Parent.toNat default).u_x) ((l183.getD e0.Parent.toNat default).u_y) ((l183.getD e0.Parent.toNat default).v_x) ((l183.getD e0.Parent.toNat default).v_y) ((l183.getD e0.Parent.toNat default).lift) r3.1 r3.2.1); (let r8 := (sp_zat ((l183.getD e0.Parent.toNat default).qan) ((l183.getD e0.Parent.toNat default).qao) ((l183.getD e0.Parent.toNat default).qap) ((l183.getD e0.Parent.toNat default).qah) ((l183.getD e0.Parent.toNat default).qai) ((l183.getD e0.Parent.toNat default).qaj) ((l183.getD e0.Parent.toNat default).qak) ((l183.getD e0.Parent.toNat default).qal) ((l183.getD e0.Parent.toNat default).qam) ((l183.getD e0.Parent.toNat default).face_W) ((l183.getD e0.Parent.toNat default).face_H)); (let r9 := (sp_zau e0.Angle ((bandI .i64 v6 1) == 1) r7.1 r7.2.1 r7.2.2 r8.1 r8.2.1 r8.2.2); (let v10 := w64 ((w64 (e0.qaf - e0.qae)) + e0.qag); (((l183.length + ([(Frr.mk r4.1 r4.2.1 r4.2.2 r5.1 r5.2.1 r5.2.2 r9.1 r9.2.1 r9.2.2 (w64 (v10 - e0.qad)) (w64 (r3.2.2.1 + e0.Deduct)) e0.qaf e0.qag r3.2.1 (w64 (0 - r3.1)) r3.1 r3.2.1 e0.Deduct)]).length) * 144 ≤ 140737488355328) ∧ rec t1 t5 (w64 (t11 + 1)) c2_0 c2_1 c2_2 c2_3 (l183 ++ ([(Frr.mk r4.1 r4.2.1 r4.2.2 r5.1 r5.2.1 r5.2.2 r9.1 r9.2.1 r9.2.2 (w64 (v10 - e0.qad)) (w64 (r3.2.2.1 + e0.Deduct)) e0.qaf e0.qag r3.2.1 (w64 (0 - r3.1)) r3.1 r3.2.1 e0.Deduct)])))))))))))) ((let r11 := (sp_zm ((l183.getD e0.Parent.toNat default).qan) ((l183.getD e0.Parent.toNat default).qao) ((l183.getD e0.Parent.toNat default).qap) ((l183.getD e0.Parent.toNat default).qah) ((l183.getD e0.Parent.toNat default).qai) ((l183.getD e0.Parent.toNat default).qaj) ((l183.getD e0.Parent.toNat default).qak) ((l183.getD e0.Parent.toNat default).qal) ((l183.getD e0.Parent.toNat default).qam) ((l183.getD e0.Parent.toNat default).face_W) ((l183.getD e0.Parent.toNat default).face_H) ((l183.getD e0.Parent.toNat default).at_x) ((l183.getD e0.Parent.toNat default).at_y) ((l183.getD e0.Parent.toNat default).u_x) ((l183.getD e0.Parent.toNat default).u_y) ((l183.getD e0.Parent.toNat default).v_x) ((l183.getD e0.Parent.toNat default).v_y) ((l183.getD e0.Parent.toNat default).lift) e0.qae e0.qad); (let r12 := (sp_za ((l183.getD e0.Parent.toNat default).qan) ((l183.getD e0.Parent.toNat default).qao) ((l183.getD e0.Parent.toNat default).qap) ((l183.getD e0.Parent.toNat default).qah) ((l183.getD e0.Parent.toNat default).qai) ((l183.getD e0.Parent.toNat default).qaj) ((l183.getD e0.Parent.toNat default).qak) ((l183.getD e0.Parent.toNat default).qal) ((l183.getD e0.Parent.toNat default).qam) ((l183.getD e0.Parent.toNat default).face_W) ((l183.getD e0.Parent.toNat default).face_H) ((l183.getD e0.Parent.toNat default).at_x) ((l183.getD e0.Parent.toNat default).at_y) ((l183.getD e0.Parent.toNat default).u_x) ((l183.getD e0.Parent.toNat default).u_y) ((l183.getD e0.Parent.toNat default).v_x) ((l183.getD e0.Parent.toNat default).v_y) ((l183.getD e0.Parent.toNat default).lift) r3.2.1 (w64 (0 - r3.1))); (let v13 := Int.fdiv t1 (2 ^ (min ((IntKind.u64.wrap t11).toNat) 64)); ((0 ≤ (IntKind.u64.wrap t11)) ∧ (let r14 := (sp_za ((l183.getD e0.Parent.toNat default).qan) ((l183.getD e0.Parent.toNat default).qao) ((l183.getD e0.Parent.toNat default).qap) ((l183.getD e0.Parent.toNat default).qah) ((l183.getD e0.Parent.toNat default).qai) ((l183.getD e0.Parent.toNat default).qaj) ((l183.getD e0.Parent.toNat default).qak) ((l183.getD e0.Parent.toNat default).qal) ((l183.getD e0.Parent.toNat default).qam) ((l183.getD e0.Parent.toNat default).face_W) ((l183.getD e0.Parent.toNat default).face_H) ((l183.getD e0.Parent.toNat default).at_x) ((l183.getD e0.Parent.toNat default).at_y) ((l183.getD e0.Parent.toNat default).u_x) ((l183.getD e0.Parent.toNat default).u_y) ((l183.getD e0.Parent.toNat default).v_x) ((l183.getD e0.Parent.toNat default).v_y) ((l183.getD e0.Parent.toNat default).lift) r3.1 r3.2.1); (let r15 := (sp_zat ((l183.getD e0.Parent.toNat default).qan) ((l183.getD e0.Parent.toNat default).qao) ((l183.getD e0.Parent.toNat default).qap) ((l183.getD e0.Parent.toNat default).qah) ((l183.getD e0.Parent.toNat default).qai) ((l183.getD e0.Parent.toNat default).qaj) ((l183.getD e0.Parent.toNat default).qak) ((l183.getD e0.Parent.toNat default).qal) ((l183.getD e0.Parent.toNat default).qam) ((l183.getD e0.Parent.toNat default).face_W) ((l183.getD e0.Parent.toNat default).face_H)); (let r16 := (sp_zau e0.Angle ((bandI .i64 v13 1) == 1) r14.1 r14.2.1 r14.2.2 r15.1 r15.2.1 r15.2.2); (let v17 := w64 ((w64 (e0.qaf - e0.qae)) + e0.qag); (((l183.length + ([(Frr.mk r11.1 r11.2.1 r11.2.2 r12.1 r12.2.1 r12.2.2 r16.1 r16.2.1 r16.2.2 (w64 (v17 - e0.qad)) (w64 (r3.2.2.1 + e0.Deduct)) e0.qae e0.qad r3.2.1 (w64 (0 - r3.1)) r3.1 r3.2.1 e0.Deduct)]).length) * 144 ≤ 140737488355328) ∧ rec t1 t5 (w64 (t11 + 1)) c2_0 c2_1 c2_2 c2_3 (l183 ++ ([(Frr.mk r11.1 r11.2.1 r11.2.2 r12.1 r12.2.1 r12.2.2 r16.1 r16.2.1 r16.2.2 (w64 (v17 - e0.qad)) (w64 (r3.2.2.1 + e0.Deduct)) e0.qae e0.qad r3.2.1 (w64 (0 - r3.1)) r3.1 r3.2.1 e0.Deduct)])))))))))))))))))))))) (x1 t1 t5 t11 c2_0 c2_1 c2_2 c2_3 l183)
def g_zaq_c0_0 (Q : List Frr → Int → Prop) (t1 t5 t11 : Int) (c2_0 c2_1 c2_2 : List Rect) (c2_3 : List Bend) (l183 : List Frr) : Prop := Q ([]) t5
def g_zaq_c0_1 (Q : List Frr → Int → Prop) (t1 t5 t11 : Int) (c2_0 c2_1 c2_2 : List Rect) (c2_3 : List Bend) (l183 : List Frr) : Prop := Q l183 0
def w_zaq_0 (F : Nat) (x0 : Int → Int → Int → List Rect → List Rect → List Rect → List Bend → List Frr → Prop) (x1 : Int → Int → Int → List Rect → List Rect → List Rect → List Bend → List Frr → Prop) : Nat → Int → Int → Int → List Rect → List Rect → List Rect → List Bend → List Frr → Prop
  | 0, _, _, _, _, _, _, _, _ => False
  | n + 1, t1, t5, t11, c2_0, c2_1, c2_2, c2_3, l183 => g_zaq_s0 (w_zaq_0 F x0 x1 n) x0 x1 t1 t5 t11 c2_0 c2_1 c2_2 c2_3 l183
def n_zaq_0 (F : Nat) (Q : List Frr → Int → Prop) (t1 t5 t11 : Int) (c2_0 c2_1 c2_2 : List Rect) (c2_3 : List Bend) (l183 : List Frr) : Prop := w_zaq_0 F (fun t1 t5 t11 c2_0 c2_1 c2_2 c2_3 l183 => g_zaq_c0_0 Q t1 t5 t11 c2_0 c2_1 c2_2 c2_3 l183) (fun t1 t5 t11 c2_0 c2_1 c2_2 c2_3 l183 => g_zaq_c0_1 Q t1 t5 t11 c2_0 c2_1 c2_2 c2_3 l183) F t1 t5 t11 c2_0 c2_1 c2_2 c2_3 l183
def w_zaq (F : Nat) (qa qc qd : List Rect) (qb : List Bend) (a1 : Int) (Q : List Frr → Int → Prop) : Prop := g_zaq_e qa qc qd qb a1 Q (n_zaq_0 F Q)
end
end Go.Proofs.YteffpgliiilnjaaGreatDoor
namespace Go.Proofs.YteffpgliiilnjaaGreatDoor
open Go.Vm Go.RowKit
set_option linter.unusedVariables false
noncomputable section
def toR (p : Frm) : Frr := Frr.mk p.qaw p.qax p.qay p.qaq p.qar p.qas p.qat p.qau p.qav p.Face_W p.Face_H p.begin_X p.begin_Y p.u_X p.u_Y p.v_X p.v_Y p.ahead
theorem step_eq (p : Frm) (r q : Rect) (b : Bend) (t : Bool) (hr : vR r = true) (hq : vR q = true) (o : Int × Int × Int × Bool) (ho : o = sp_zac b.qae b.qad b.qaf b.qag r.X r.Y r.W r.H q.X q.Y q.W q.H) (hs : o.2.2.2 = true) (x y : Int)
    (hc : cond (decide ((w64 (o.2.1 + (w64 (0 - o.1)))) < 0)) (b.qaf, b.qag) (b.qae, b.qad) = (x, y)) : toR (childF p r b t) =
      let r4 := sp_zm (toR p).qan (toR p).qao (toR p).qap (toR p).qah (toR p).qai (toR p).qaj (toR p).qak (toR p).qal (toR p).qam (toR p).face_W (toR p).face_H (toR p).at_x (toR p).at_y (toR p).u_x (toR p).u_y (toR p).v_x (toR p).v_y (toR p).lift x y
      let r5 := sp_za (toR p).qan (toR p).qao (toR p).qap (toR p).qah (toR p).qai (toR p).qaj (toR p).qak (toR p).qal (toR p).qam (toR p).face_W (toR p).face_H (toR p).at_x (toR p).at_y (toR p).u_x (toR p).u_y (toR p).v_x (toR p).v_y (toR p).lift o.2.1 (w64 (0 - o.1))
      let r7 := sp_za (toR p).qan (toR p).qao (toR p).qap (toR p).qah (toR p).qai (toR p).qaj (toR p).qak (toR p).qal (toR p).qam (toR p).face_W (toR p).face_H (toR p).at_x (toR p).at_y (toR p).u_x (toR p).u_y (toR p).v_x (toR p).v_y (toR p).lift o.1 o.2.1
      let r8 := sp_zat (toR p).qan (toR p).qao (toR p).qap (toR p).qah (toR p).qai (toR p).qaj (toR p).qak (toR p).qal (toR p).qam (toR p).face_W (toR p).face_H
      let r9 := sp_zau b.Angle t r7.1 r7.2.1 r7.2.2 r8.1 r8.2.1 r8.2.2
      Frr.mk r4.1 r4.2.1 r4.2.2 r5.1 r5.2.1 r5.2.2 r9.1 r9.2.1 r9.2.2 (w64 ((w64 ((w64 (b.qaf - b.qae)) + b.qag)) - b.qad)) (w64 (o.2.2.1 + b.Deduct)) x y o.2.1 (w64 (0 - o.1)) o.1 o.2.1 b.Deduct := by
  have he := outward_eq r q b.qae b.qad b.qaf b.qag hr hq
  rw [← ho] at he
  obtain ⟨e1, e2, e3⟩ := he.2 hs
  rw [e1, e2] at hc
  rw [e1, e2, e3]
  unfold childF sp_zae
  generalize sp_zq r.X r.Y r.W r.H b.qae b.qad b.qaf b.qag = a at hc ⊢
  dsimp only
  rw [hc, point_place, dir_turned, dir_turned, norm_norm]
  unfold sp_zau
  cases t
  · rfl
  · cases (b.Angle == 90)
    · cases (b.Angle == (-90)) <;> rfl
    · rfl
theorem getD_map (l : List Frm) (i : Nat) (h : i < l.length) : (l.map toR).getD i default = toR (l.getD i default) := by
  simp [List.getD, h]
def pre_zaq (R C M : List Rect) (B : List Bend) (k : Int) : Prop := sI B
def sp_zaq (R C M : List Rect) (B : List Bend) (k : Int) : List Frr × Int :=
  bif !(wholeB R C M B) then ([], 1) else bif wrongB R B k then ([], 1) else bif shapes R B then ((frs R B k B.length).map toR, 0) else ([], 6)
theorem lp_rframes (F : Nat) (x0 x1 : Int → Int → Int → List Rect → List Rect → List Rect → List Bend → List Frr → Prop) (R C M : List Rect) (B : List Bend) (k : Int) (hl : R.length = B.length + 1) (h5 : B.length ≤ 5) (hR : ∀ r ∈ R, vR r = true) (hb : ∀ j, j < B.length → badBend B j = false) (Z : Bool → Prop)
    (hX : Z false → ∀ (j : Int) (l : List Frr), x0 k 6 j R C M B l) (hY : Z true → x1 k 0 B.length R C M B ((frs R B k B.length).map toR)) (n : Nat) (hn : B.length < n) (hZ : Z (shapes R B)) :
    w_zaq_0 F x0 x1 n k 0 ((0 : Nat) : Int) R C M B ((frs R B k 0).map toR) := by
  refine scan B.length (shapeB R B) (fun n i => w_zaq_0 F x0 x1 n k 0 i R C M B ((frs R B k i.toNat).map toR)) Z (fun n i hi hall hF hT => ?_) (fun n hall hT => ?_) hZ n 0 (by omega) (by omega) (fun j hj => by omega)
  · show g_zaq_s0 (w_zaq_0 F x0 x1 n) x0 x1 k 0 i R C M B ((frs R B k i).map toR)
    unfold g_zaq_s0
    have hp := bend_facts (hb i hi)
    have hL := frs_len R B k i
    have hlm : ((frs R B k i).map toR).length = i + 1 := by rw [List.length_map, hL]
    have hr := hR _ (getD_mem' R (i + 1) (by omega))
    have hq := hR _ (getD_mem' R (B.getD i default).Parent.toNat (by omega))
    have hg := getD_map (frs R B k i) (B.getD i default).Parent.toNat (by omega)
    rw [dec_t (show (i : Int) < B.length by omega), cond_true, w64_s hi (by omega), u64_nat (show (i : Int) ≤ 9223372036854775807 by omega), Int.toNat_natCast, Int.toNat_natCast]
    refine ⟨⟨by omega, by omega⟩, ⟨by omega, by omega⟩, ⟨by omega, by omega⟩, ?_⟩
    have hs : (sp_zac (B.getD i default).qae (B.getD i default).qad (B.getD i default).qaf (B.getD i default).qag (R.getD (i + 1) default).X (R.getD (i + 1) default).Y (R.getD (i + 1) default).W (R.getD (i + 1) default).H (R.getD (B.getD i default).Parent.toNat default).X (R.getD (B.getD i default).Parent.toNat default).Y (R.getD (B.getD i default).Parent.toNat default).W (R.getD (B.getD i default).Parent.toNat default).H).2.2.2 = shapeB R B i := rfl
    have he := step_eq ((frs R B k i).getD (B.getD i default).Parent.toNat default) (R.getD (i + 1) default) (R.getD (B.getD i default).Parent.toNat default) (B.getD i default) (bitAt k i) hr hq _ rfl
    rw [← hg] at he
    generalize sp_zac (B.getD i default).qae (B.getD i default).qad (B.getD i default).qaf (B.getD i default).qag (R.getD (i + 1) default).X (R.getD (i + 1) default).Y (R.getD (i + 1) default).W (R.getD (i + 1) default).H (R.getD (B.getD i default).Parent.toNat default).X (R.getD (B.getD i default).Parent.toNat default).Y (R.getD (B.getD i default).Parent.toNat default).W (R.getD (B.getD i default).Parent.toNat default).H = o at he hs ⊢
    change cond (!o.2.2.2) _ _
    rw [hs] at he ⊢
    cases hsh : shapeB R B i with
    | false => exact hX (hF hsh) _ _
    | true =>
      have hT := hT hsh
      have he := he hsh
      have key : ∀ z : Frr, toR (stepF R B k (frs R B k i) i) = z → w_zaq_0 F x0 x1 n k 0 ((i + 1 : Nat) : Int) R C M B (((frs R B k i).map toR) ++ [z]) := fun z hz => by
        have e : (frs R B k (i + 1)).map toR = ((frs R B k i).map toR) ++ [z] := by
          rw [← hz]
          show (frs R B k i ++ [stepF R B k (frs R B k i) i]).map toR = _
          rw [List.map_append]
          rfl
        rw [← e]
        exact hT
      simp only [Bool.not_true, cond_false]
      refine ⟨⟨by omega, by rw [hlm]; omega⟩, ?_⟩
      have hlen : ∀ z : Frr, (((frs R B k i).map toR).length + [z].length) * 144 ≤ 140737488355328 := fun z => by
        rw [hlm]
        simp only [List.length_cons, List.length_nil]
        omega
      cases hc : decide ((w64 (o.2.1 + (w64 (0 - o.1)))) < 0) with
      | true =>
        rw [hc] at he
        refine ⟨by omega, hlen _, ?_⟩
        exact key _ (he _ _ rfl)
      | false =>
        rw [hc] at he
        refine ⟨by omega, hlen _, ?_⟩
        exact key _ (he _ _ rfl)
  · show g_zaq_s0 (w_zaq_0 F x0 x1 n) x0 x1 k 0 B.length R C M B ((frs R B k B.length).map toR)
    unfold g_zaq_s0
    rw [dec_f (by omega), cond_false]
    exact hY hT
theorem ok_zaq (qa qc qd : List Rect) (qb : List Bend) (a1 : Int) (h : pre_zaq qa qc qd qb a1) : ∃ F, ∀ Q : List Frr → Int → Prop, Q ((sp_zaq qa qc qd qb a1).1) ((sp_zaq qa qc qd qb a1).2) → w_zaq F qa qc qd qb a1 Q := by
  refine ⟨qb.length + 1, fun Q hQ => ?_⟩
  unfold w_zaq g_zaq_e
  unfold sp_zaq at hQ
  have e0 : (sp_zav qa qc qd qb).2.2.2.2 = bif wholeB qa qc qd qb then 0 else 1 := by
    unfold sp_zav sp_zay
    cases wholeB qa qc qd qb <;> rfl
  refine ⟨⟨h, ?_⟩, ?_⟩
  · unfold sp_zay
    cases hw : wholeB qa qc qd qb
    · trivial
    · have := whole_facts hw
      exact ⟨show qa.length ≤ 1000 by omega, fun e => this.1 (by rw [e]; rfl), this.2.2.1⟩
  rw [e0]
  cases hw : wholeB qa qc qd qb with
  | false =>
    rw [hw] at hQ
    exact hQ
  | true =>
  rw [hw] at hQ
  have wf := whole_facts hw
  refine ⟨h, ?_⟩
  unfold sp_zbg
  cases hh : wrongB qa qb a1 with
  | true =>
    rw [hh] at hQ
    exact hQ
  | false =>
  rw [hh] at hQ
  unfold wrongB at hh
  rw [Bool.or_eq_false_iff] at hh
  have hf := head_facts wf.1 wf.2.1 hh.1
  have hb : ∀ j, j < qb.length → badBend qb j = false := fun j hj => by
    have := hh.2
    simp only [Bool.not_eq_false', List.all_eq_true, List.mem_range, Bool.not_eq_true'] at this
    exact this j hj
  refine ⟨⟨by omega, by omega⟩, ?_⟩
  exact lp_rframes (qb.length + 1) _ _ qa qc qd qb a1 hf.1 hf.2 wf.2.2.1 hb (fun t => Q (bif t then ((frs qa qb a1 qb.length).map toR, (0 : Int)) else (([] : List Frr), (6 : Int))).1 (bif t then ((frs qa qb a1 qb.length).map toR, (0 : Int)) else (([] : List Frr), (6 : Int))).2) (fun q j l => q) (fun q => q) (qb.length + 1) (by omega) hQ
end
end Go.Proofs.YteffpgliiilnjaaGreatDoor
namespace Go.Proofs.YteffpgliiilnjaaGreatDoor
open Go.Vm Go.RowKit
set_option linter.unusedVariables false
noncomputable section
def M_cat : Nat → Nat → Nat → Canon UU := fun o b r => cond (Nat.beq b 0) ⟨[0, 3, 9, 10, 11], [], [], [], []⟩ (cond (Nat.beq b 2) ⟨[6, 25, 26, 27], [], [(.tmp 6, 36, .rect)], [], []⟩ (⟨[], [], [], [], []⟩))
def st_cat_0 (t0 : List (List Rect)) (t3 : Int) (t9 : List (List Rect)) (t10 t11 : Int) : ASt UU := ⟨fun u => cond (Nat.beq u 0) (.sl .rects t0) (cond (Nat.beq u 3) (.int .i64 t3) (cond (Nat.beq u 9) (.sl .rects t9) (cond (Nat.beq u 10) (.int .i64 t10) (cond (Nat.beq u 11) (.int .i64 t11) (.any))))), fun u => none⟩
def st_cat_1 (t25 : List (List Rect)) (t26 t27 : Int) (l36 : List Rect) : ASt UU := ⟨fun u => cond (Nat.beq u 6) (.osl 36 0) (cond (Nat.beq u 25) (.sl .rects t25) (cond (Nat.beq u 26) (.int .i64 t26) (cond (Nat.beq u 27) (.int .i64 t27) (.any)))), fun u => cond (Nat.beq u 36) (some (.row .rect 0 l36)) (none)⟩
def g_cat_e (a0 : List (List Rect)) (Q : List Rect → Prop) (i0 : List (List Rect) → Int → List (List Rect) → Int → Int → Prop) : Prop := i0 a0 0 a0 (a0.length : Int) 0
def g_cat_s0 (rec : List (List Rect) → Int → List (List Rect) → Int → Int → Prop) (x0 : List (List Rect) → Int → List (List Rect) → Int → Int → Prop) (t0 : List (List Rect)) (t3 : Int) (t9 : List (List Rect)) (t10 t11 : Int) : Prop := cond (decide (t11 < t10)) ((let e0 := (t9.getD t11.toNat default); ((0 ≤ t11 ∧ t11 < t9.length) ∧ cond (decide ((w64 (t3 + (e0.length : Int))) < 0)) (False) (rec t0 (w64 (t3 + (e0.length : Int))) t9 t10 (w64 (t11 + 1)))))) (x0 t0 t3 t9 t10 t11)
def g_cat_c0_0 (Q : List Rect → Prop) (t0 : List (List Rect)) (t3 : Int) (t9 : List (List Rect)) (t10 t11 : Int) (i1 : List (List Rect) → Int → Int → List Rect → Prop) : Prop := ((0 ≤ t3 ∧ t3 ≤ 1000000) ∧ i1 t0 (t0.length : Int) 0 ([] : List Rect))
def g_cat_s1 (rec : List (List Rect) → Int → Int → List Rect → Prop) (x0 : List (List Rect) → Int → Int → List Rect → Prop) (t25 : List (List Rect)) (t26 t27 : Int) (l36 : List Rect) : Prop := cond (decide (t27 < t26)) ((let e0 := (t25.getD t27.toNat default); ((0 ≤ t27 ∧ t27 < t25.length) ∧ (((l36.length + e0.length) * 32 ≤ 140737488355328) ∧ rec t25 t26 (w64 (t27 + 1)) (l36 ++ e0))))) (x0 t25 t26 t27 l36)
def g_cat_c1_0 (Q : List Rect → Prop) (t25 : List (List Rect)) (t26 t27 : Int) (l36 : List Rect) : Prop := Q l36
def w_cat_1 (F : Nat) (x0 : List (List Rect) → Int → Int → List Rect → Prop) : Nat → List (List Rect) → Int → Int → List Rect → Prop
  | 0, _, _, _, _ => False
  | n + 1, t25, t26, t27, l36 => g_cat_s1 (w_cat_1 F x0 n) x0 t25 t26 t27 l36
def n_cat_1 (F : Nat) (Q : List Rect → Prop) (t25 : List (List Rect)) (t26 t27 : Int) (l36 : List Rect) : Prop := w_cat_1 F (fun t25 t26 t27 l36 => g_cat_c1_0 Q t25 t26 t27 l36) F t25 t26 t27 l36
def w_cat_0 (F : Nat) (x0 : List (List Rect) → Int → List (List Rect) → Int → Int → Prop) : Nat → List (List Rect) → Int → List (List Rect) → Int → Int → Prop
  | 0, _, _, _, _, _ => False
  | n + 1, t0, t3, t9, t10, t11 => g_cat_s0 (w_cat_0 F x0 n) x0 t0 t3 t9 t10 t11
def n_cat_0 (F : Nat) (Q : List Rect → Prop) (t0 : List (List Rect)) (t3 : Int) (t9 : List (List Rect)) (t10 t11 : Int) : Prop := w_cat_0 F (fun t0 t3 t9 t10 t11 => g_cat_c0_0 Q t0 t3 t9 t10 t11 (n_cat_1 F Q)) F t0 t3 t9 t10 t11
def w_cat (F : Nat) (a0 : List (List Rect)) (Q : List Rect → Prop) : Prop := g_cat_e a0 Q (n_cat_0 F Q)
end
end Go.Proofs.YteffpgliiilnjaaGreatDoor
namespace Go.Proofs.YteffpgliiilnjaaGreatDoor
open Go.Vm Go.RowKit
set_option linter.unusedVariables false
noncomputable section
theorem take_flat {α : Type} (L : List (List α)) (i : Nat) (h : i < L.length) : (L.take (i + 1)).flatten = (L.take i).flatten ++ L.getD i default := by
  rw [List.take_add_one, List.flatten_append]
  simp [List.getD, h]
theorem take_flat_le {α : Type} (L : List (List α)) (i : Nat) : (L.take i).flatten.length ≤ L.flatten.length := by
  have : L.flatten = (L.take i).flatten ++ (L.drop i).flatten := by rw [← List.flatten_append, List.take_append_drop]
  rw [this, List.length_append]
  omega
def pre_cat (L : List (List Rect)) : Prop := L.flatten.length ≤ 100000 ∧ L.length ≤ 1000
def sp_cat (L : List (List Rect)) : List Rect := L.flatten
theorem lp_cat0 (F : Nat) (x0 : List (List Rect) → Int → List (List Rect) → Int → Int → Prop) (L : List (List Rect)) (h : pre_cat L) (hx : x0 L (L.flatten.length : Int) L L.length L.length) : ∀ n i : Nat, i ≤ L.length → L.length < n + i →
    w_cat_0 F x0 n L ((L.take i).flatten.length : Int) L L.length i := by
  intro n
  induction n with
  | zero => intro i h1 h2; omega
  | succ n ih =>
    intro i h1 h2
    show g_cat_s0 (w_cat_0 F x0 n) x0 L ((L.take i).flatten.length : Int) L L.length i
    unfold g_cat_s0
    have h8 := h.1
    by_cases hi : i < L.length
    · have e1 := take_flat L i hi
      have e2 := take_flat_le L (i + 1)
      rw [e1, List.length_append] at e2
      rw [dec_t (show (i : Int) < L.length by omega), cond_true, Int.toNat_natCast]
      refine ⟨⟨by omega, by omega⟩, ?_⟩
      rw [w64_of (n := ((L.take i).flatten.length : Int) + ((L.getD i default).length : Int)) (by omega) (by omega), dec_f (by omega), cond_false, w64_succ hi (by have := h.2; omega)]
      have := ih (i + 1) (by omega) (by omega)
      rw [e1, List.length_append] at this
      rw [Int.natCast_add] at this
      exact this
    · have e : i = L.length := by omega
      subst e
      rw [dec_f (by omega), cond_false, List.take_length]
      exact hx
theorem lp_cat1 (F : Nat) (x0 : List (List Rect) → Int → Int → List Rect → Prop) (L : List (List Rect)) (h : pre_cat L) (hx : x0 L L.length L.length L.flatten) : ∀ n i : Nat, i ≤ L.length → L.length < n + i →
    w_cat_1 F x0 n L L.length i (L.take i).flatten := by
  intro n
  induction n with
  | zero => intro i h1 h2; omega
  | succ n ih =>
    intro i h1 h2
    show g_cat_s1 (w_cat_1 F x0 n) x0 L L.length i (L.take i).flatten
    unfold g_cat_s1
    have h8 := h.1
    by_cases hi : i < L.length
    · have e1 := take_flat L i hi
      have e2 := take_flat_le L (i + 1)
      rw [e1, List.length_append] at e2
      rw [dec_t (show (i : Int) < L.length by omega), cond_true, Int.toNat_natCast, w64_succ hi (by have := h.2; omega)]
      refine ⟨⟨by omega, by omega⟩, by omega, ?_⟩
      have := ih (i + 1) (by omega) (by omega)
      rw [e1] at this
      exact this
    · have e : i = L.length := by omega
      subst e
      rw [dec_f (by omega), cond_false, List.take_length]
      exact hx
theorem ok_cat (a0 : List (List Rect)) (h : pre_cat a0) : ∃ F, ∀ Q : List Rect → Prop, Q (sp_cat a0) → w_cat F a0 Q := by
  refine ⟨a0.length + 1, fun Q hQ => ?_⟩
  refine lp_cat0 (a0.length + 1) _ a0 h ?_ (a0.length + 1) 0 (by omega) (by omega)
  refine ⟨⟨by omega, by have := h.1; omega⟩, ?_⟩
  exact lp_cat1 (a0.length + 1) _ a0 h hQ (a0.length + 1) 0 (by omega) (by omega)
end
end Go.Proofs.YteffpgliiilnjaaGreatDoor
