/- Names: the contracts of strings.Contains, part.ValidName, and of the reference's ValidName: both are one Lean function. Conditions: none. -/
import Derived.Test.YtohecfbnmmgimaaV5
import Derived.Test.YtohecfbnmmgimaaShelf
import Derived.Test.YtohecfbnmmgimaaChecked
import Derived.Lib.IndexMore
namespace Go.Proofs.Ytohecfbnmmgimaa
open Go.Vm Go.RowKit
set_option linter.unusedVariables false

section
variable {U : Univ}
theorem mixed : Try.prog.follows .mixedOrders = true := Checked.mixed Try.checked
def MN : Nat → Nat → Canon U := fun _ _ => ⟨[], [], []⟩

/-! ### Contains -/
def inv0 (w : World) : Prop := ∃ m, w.cell? ⟨0, 0, none⟩ = some (.int .i64 m)
theorem inv0_ok (w w' : World) (h : inv0 w) (hb : Below w.heap.size w w') : inv0 w' := by
  obtain ⟨m, hm⟩ := h
  refine ⟨m, ?_⟩
  rw [hb.cell ?_, hm]
  show 0 < w.heap.size
  rcases Nat.eq_zero_or_pos w.heap.size with h0 | h0
  · have h1 : w.heap[0]? = none := by simp [h0]
    simp [World.cell?, h1] at hm
  · exact h0

def mContains : Model U
  | [.str s, .str sub] => some ([s.size < 4294967281], .bool (Lib.contains s.data.toList sub.data.toList))
  | _ => none
theorem sContains {C : Cfg U} (hs : SumOK C) (hP : C.P = Try.prog) (hI : ∀ w, C.inv w → inv0 w) : SumOK (C.add 67 mContains) := by
  refine hs.put ⟨fun args w => by rw [hP]; exact callFunc_run (fn := Try.f67) Try.func67 (by kernel_rfl) rfl args w, ?_⟩
  intro N w args xs cs r hinv hN hargs hm hc
  unfold mContains at hm
  split at hm
  · rename_i s sub
    cases hm
    obtain ⟨m, hw⟩ := hI w hinv
    obtain ⟨h1, h2⟩ := hargs
    have e0 := h2 0 (by simp)
    have e1 := h2 1 (by simp)
    obtain ⟨l⟩ := args
    match l, h1 with
    | [a, b], _ =>
      simp at e0 e1
      cases e0
      cases e1
      rw [hP]
      refine (Try.strings_Contains s sub m w hc hw).mono ?_
      rintro e w' ⟨rfl, rfl⟩
      exact ⟨_, rfl, Fresh.of rfl rfl (.bool _), Below.refl _ _⟩
  · cases hm

/-! ### part.ValidName -/
def chr (s : ByteArray) (i : Int) : Int := (s.data.toList.getD i.toNat 0).toNat
def okc (c : Int) : Bool := !((decide (c < 97) || decide (122 < c)) && (decide (c < 48) || decide (57 < c)))
def okFrom (s : ByteArray) (i : Nat) : Bool := (s.data.toList.drop i).all fun c => okc c.toNat
def blank : ByteArray := ⟨#[32]⟩
noncomputable def words : ByteArray := match Try.f70.body with
  | some (.seq _ (.seq (.region _ ops _) _)) => match ops.toList with
    | [⟨_, .assign (.const (.string s)), _, _, _, _⟩] => s
    | _ => ⟨#[]⟩
  | _ => ⟨#[]⟩
noncomputable def vn (s : ByteArray) : Bool :=
  !((decide ((s.size : Int) < 1) || decide (8 < (s.size : Int)) || decide (chr s 0 < 97) || decide (122 < chr s 0)) || !okFrom s 0 || Lib.contains words.data.toList (blank ++ s ++ blank).data.toList)

noncomputable def bVN : Code := (Try.f42.body).getD .skip
noncomputable def lVN : Code := (loopsOf bVN).getD 0 .skip
def MVN : Nat → Nat → Canon U := fun _ _ => ⟨[0, 2, 24, 25], [], []⟩
def stVN (s : ByteArray) (i : Int) : ASt U :=
  ⟨fun u => cond (Nat.beq u 0) (.str s) (cond (Nat.beq u 2) (.bool false) (cond (Nat.beq u 24) (.int .i64 s.size) (cond (Nat.beq u 25) (.int .i64 i) .any))), fun _ => none⟩

theorem okFrom_step {s : ByteArray} {i : Nat} (h : i < s.size) : okFrom s i = (okc (chr s i) && okFrom s (i + 1)) := by
  unfold okFrom chr
  have h' : i < s.data.toList.length := by simpa using h
  rw [List.drop_eq_getElem_cons h', List.all_cons]
  congr 1
  rw [List.getD_eq_getElem?_getD, List.getElem?_eq_getElem (by simpa using h')]
  rfl

theorem wrapped {n : Int} (h1 : -9223372036854775808 ≤ n) (h2 : n ≤ 9223372036854775807) : IntKind.i64.wrap n = n := by
  rw [IntKind.wrap_i64]
  omega

theorem loopVN {C : Cfg U} (hP : C.P = Try.prog) (s : ByteArray) (hs : s.size ≤ 1000) (F : Nat) (K : AEx → ASt U → Prop) : ∀ (f r : Nat) (i : Nat), i ≤ s.size → s.size < f + i → (okFrom s i = true → K (.exit 0) (stVN s s.size)) → (okFrom s i = false → ∀ j, K .ret (stVN s j)) →
    iter (exec C 51 MVN F 0 lVN) (MVN 0) f r (stVN s i) K := by
  obtain ⟨P, E, elt, sum, plain, plainOK, inv, invOK⟩ := C
  obtain rfl : P = Try.prog := hP
  intro f
  induction f with
  | zero => intro r i hi hf; omega
  | succ f ih =>
    intro r i hi hf hK hR
    refine back (q := cond (decide ((i : Int) < s.size)) ((0 ≤ (i : Int) ∧ (i : Int) < s.size) ∧ cond ((decide (chr s i < 97) || decide (122 < chr s i)) && (decide (chr s i < 48) || decide (57 < chr s i))) (K .ret (stVN s i)) (iter (exec ⟨Try.prog, E, elt, sum, plain, plainOK, inv, invOK⟩ 51 MVN F 0 lVN) (MVN 0) f (r + 1) (stVN s (IntKind.i64.wrap (i + 1))) K)) (K (.exit 0) (stVN s i))) (by kernel_rfl) ?_
    by_cases h : i < s.size
    · have h1 : decide ((i : Int) < s.size) = true := by simpa using h
      rw [h1]
      refine ⟨by omega, ?_⟩
      have h2 := okFrom_step h
      cases h5 : ((decide (chr s i < 97) || decide (122 < chr s i)) && (decide (chr s i < 48) || decide (57 < chr s i)))
      case true =>
        have h3 : okc (chr s i) = false := by
          unfold okc
          rw [h5]
          rfl
        exact hR (by rw [h2, h3]; rfl) _
      case false =>
        have h3 : okc (chr s i) = true := by
          unfold okc
          rw [h5]
          rfl
        have h6 : IntKind.i64.wrap ((i : Int) + 1) = ((i + 1 : Nat) : Int) := by
          rw [wrapped (by omega) (by omega)]
          rfl
        rw [h6]
        rw [h3] at h2
        exact ih (r + 1) (i + 1) (by omega) (by omega) (fun q => hK (by rw [h2, q]; rfl)) (fun q => hR (by rw [h2, q]; rfl))
    · have h1 : decide ((i : Int) < s.size) = false := by simpa using h
      have h2 : i = s.size := by omega
      subst h2
      rw [h1]
      refine hK ?_
      have h3 : s.data.toList.drop s.size = [] := List.drop_of_length_le (by simp)
      simp [okFrom, h3]

noncomputable def mVN : Model U
  | [.str s] => some ([s.size ≤ 1000], .bool (vn s))
  | _ => none
def addContains (C : Cfg U) : Cfg U := C.add 67 mContains
noncomputable def addVN (C : Cfg U) : Cfg U := (addContains C).add 42 mVN
set_option maxRecDepth 100000 in
theorem sVN {C : Cfg U} (hs : SumOK C) (hP : C.P = Try.prog) (hI : ∀ w, C.inv w → inv0 w) : SumOK (addVN C) := by
  have hs1 : SumOK (addContains C) := sContains hs hP hI
  obtain ⟨P, E, elt, sum, plain, plainOK, inv, invOK⟩ := C
  obtain rfl : P = Try.prog := hP
  refine hs1.add mixed (fn := Try.f42) (c := bVN) Try.func42 (by kernel_rfl) rfl ?_
  intro xs cs r h hcs
  unfold mVN at h
  split at h
  · rename_i s
    cases h
    have hsz : s.size ≤ 1000 := hcs
    refine ⟨by kernel_rfl, MVN, s.size + 1, false, ?_⟩
    conv => whnf
    refine ⟨⟨fun h => ?_, fun h => ?_⟩, ?_⟩
    · simp only [Bool.or_eq_false_iff, decide_eq_false_iff_not] at h
      exact ⟨by omega, by omega⟩
    · simp only [Bool.or_eq_false_iff, decide_eq_false_iff_not] at h
      exact ⟨by omega, by omega⟩
    conv => whnf
    cases hX : (decide ((s.size : Int) < 1) || decide (8 < (s.size : Int)) || decide (((s.data.toList.getD (Int.toNat 0) 0).toNat : Int) < 97) || decide (122 < ((s.data.toList.getD (Int.toNat 0) 0).toNat : Int)))
    case true =>
      refine back (q := AVal.bool (U := U) false = .bool (vn s)) (by kernel_rfl) ?_
      unfold vn chr
      rw [hX]
      rfl
    case false =>
      conv => whnf
      refine loopVN (C := addContains ⟨Try.prog, E, elt, sum, plain, plainOK, inv, invOK⟩) rfl s hsz _ _ (s.size + 1) 0 0 (by omega) (by omega) (fun q => ?_) (fun q j => ?_)
      · refine back (q := (((blank.size : Int) + s.size ≤ 9223372036854775807) ∧ (((blank ++ s).size : Int) + blank.size ≤ 9223372036854775807) ∧ words.size < 4294967281) ∧ AVal.bool (U := U) (!Lib.contains words.data.toList (blank ++ s ++ blank).data.toList) = .bool (vn s)) (by kernel_rfl) ?_
        have hw : words.size < 4294967281 := of_decide_eq_true (by kernel_rfl)
        have hb : blank.size = 1 := rfl
        refine ⟨⟨by omega, by rw [ByteArray.size_append]; omega, hw⟩, ?_⟩
        unfold vn chr
        rw [hX, q]
        rfl
      · refine back (q := AVal.bool (U := U) false = .bool (vn s)) (by kernel_rfl) ?_
        unfold vn chr
        rw [hX, q]
        rfl
  · cases h

/-! ### The reference's ValidName -/
noncomputable def mReserved : Model U
  | [] => some ([], .str words)
  | _ => none
def mWithin : Model U
  | [.int .i64 x, .int .i64 a, .int .i64 b] => some ([], .bool (decide (a ≤ x) && decide (x ≤ b)))
  | _ => none
def mIsWord : Model U
  | [.str t, .str s] => some ([t.size ≤ 1000 ∧ s.size ≤ 1000], .bool (Lib.contains t.data.toList (blank ++ s ++ blank).data.toList))
  | _ => none
noncomputable def bRsv : Code := (Try.f70.body).getD .skip
noncomputable def bWi2 : Code := (Try.f68.body).getD .skip
noncomputable def bIsW : Code := (Try.f69.body).getD .skip
noncomputable def lIsW : Code := (loopsOf bIsW).getD 0 .skip
noncomputable def bRVN : Code := (Try.f44.body).getD .skip
noncomputable def lRVN : Code := (loopsOf bRVN).getD 0 .skip
def MRVN : Nat → Nat → Canon U := fun _ _ => ⟨[0, 2, 3], [], []⟩
def stRVN (s : ByteArray) (i : Int) : ASt U :=
  ⟨fun u => cond (Nat.beq u 0) (.str s) (cond (Nat.beq u 2) (.bool false) (cond (Nat.beq u 3) (.int .i64 i) .any)), fun _ => none⟩

theorem okc_parts (c : Int) : okc c = !(!(decide (97 ≤ c) && decide (c ≤ 122)) && (decide (c < 48) || decide (57 < c))) := by
  unfold okc
  congr 2
  rw [Bool.not_and]
  congr 1
  · rw [← decide_not]
    exact decide_eq_decide.2 (by omega)
  · rw [← decide_not]
    exact decide_eq_decide.2 (by omega)

set_option maxRecDepth 100000 in
theorem loopRVN {C : Cfg U} (hP : C.P = Try.prog) (s : ByteArray) (hs : s.size ≤ 1000) (F : Nat) (K : AEx → ASt U → Prop) : ∀ (f r : Nat) (i : Nat), i ≤ s.size → s.size < f + i → (okFrom s i = true → K (.exit 0) (stRVN s s.size)) → (okFrom s i = false → ∀ j, K .ret (stRVN s j)) →
    iter (exec C 53 MRVN F 0 lRVN) (MRVN 0) f r (stRVN s i) K := by
  obtain ⟨P, E, elt, sum, plain, plainOK, inv, invOK⟩ := C
  obtain rfl : P = Try.prog := hP
  intro f
  induction f with
  | zero => intro r i hi hf; omega
  | succ f ih =>
    intro r i hi hf hK hR
    conv => whnf
    cases h : decide ((i : Int) < s.size)
    · have h2 : i = s.size := by
        have : ¬ (i : Int) < s.size := by simpa using h
        omega
      subst h2
      refine back (q := K (.exit 0) (stRVN s s.size)) (by kernel_rfl) (hK ?_)
      have h3 : s.data.toList.drop s.size = [] := List.drop_of_length_le (by simp)
      simp [okFrom, h3]
    · have h0 : i < s.size := by
        have : (i : Int) < s.size := by simpa using h
        omega
      have h2 := okFrom_step h0
      have hb : 0 ≤ (i : Int) ∧ (i : Int) < s.size := ⟨by omega, by omega⟩
      conv => whnf
      refine ⟨⟨hb, fun _ => hb⟩, ?_⟩
      conv => whnf
      refine ⟨fun _ => ⟨hb, fun _ => hb⟩, ?_⟩
      conv => whnf
      have h3 := okc_parts (chr s i)
      unfold chr at h2 h3
      cases hX : (!(decide (97 ≤ ((s.data.toList.getD (i : Int).toNat 0).toNat : Int)) && decide (((s.data.toList.getD (i : Int).toNat 0).toNat : Int) ≤ 122)) && (decide (((s.data.toList.getD (i : Int).toNat 0).toNat : Int) < 48) || decide (57 < ((s.data.toList.getD (i : Int).toNat 0).toNat : Int))))
      · rw [hX] at h3
        rw [h3] at h2
        refine back (q := iter (exec ⟨Try.prog, E, elt, sum, plain, plainOK, inv, invOK⟩ 53 MRVN F 0 lRVN) (MRVN 0) f (r + 1) (stRVN s (IntKind.i64.wrap (i + 1))) K) (by kernel_rfl) ?_
        have h6 : IntKind.i64.wrap ((i : Int) + 1) = ((i + 1 : Nat) : Int) := by
          rw [wrapped (by omega) (by omega)]
          rfl
        rw [h6]
        exact ih (r + 1) (i + 1) (by omega) (by omega) (fun q => hK (by rw [h2, q]; rfl)) (fun q => hR (by rw [h2, q]; rfl))
      · rw [hX] at h3
        rw [h3] at h2
        exact back (q := K .ret (stRVN s i)) (by kernel_rfl) (hR (by rw [h2]; rfl) _)

/-! isWord -/
def MIsW : Nat → Nat → Canon U := fun _ _ => ⟨[0, 1, 4, 5], [], []⟩
def stIsW (t s : ByteArray) (r : Bool) (i : Int) : ASt U :=
  ⟨fun u => cond (Nat.beq u 0) (.str t) (cond (Nat.beq u 1) (.str s) (cond (Nat.beq u 4) (.bool r) (cond (Nat.beq u 5) (.int .i64 i) .any))), fun _ => none⟩

theorem ext_occ (t p : ByteArray) (i : Nat) (h : i + p.size ≤ t.size) : (t.extract i (i + p.size) == p) = Lib.occAt t.data.toList p.data.toList i := by
  rw [beq_toListBytes, ByteArray.toList_eq, ByteArray.toList_eq, Bool.eq_iff_iff, beq_iff_eq]
  unfold Lib.occAt
  rw [List.isPrefixOf_iff_prefix, List.prefix_iff_eq_take]
  have hp : p.data.toList.length = p.size := by simp
  have e : (t.extract i (i + p.size)).data.toList = (t.data.toList.drop i).take p.size := by
    simp [ByteArray.data_extract, List.extract_eq_take_drop]
  rw [hp, ← e]
  exact eq_comm

set_option maxRecDepth 100000 in
theorem loopIsW {C : Cfg U} (hP : C.P = Try.prog) (t s : ByteArray) (ht : t.size ≤ 1000) (hs : s.size ≤ 1000) (F : Nat) (K : AEx → ASt U → Prop) : ∀ (f r : Nat) (i : Nat), i ≤ t.size → t.size < f + i → Lib.NoOcc t.data.toList (blank ++ s ++ blank).data.toList i →
    (Lib.contains t.data.toList (blank ++ s ++ blank).data.toList = false → ∀ j, K (.exit 0) (stIsW t s false j)) → (Lib.contains t.data.toList (blank ++ s ++ blank).data.toList = true → ∀ j, K .ret (stIsW t s true j)) →
    iter (exec C 28 MIsW F 0 lIsW) (MIsW 0) f r (stIsW t s false i) K := by
  obtain ⟨P, E, elt, sum, plain, plainOK, inv, invOK⟩ := C
  obtain rfl : P = Try.prog := hP
  intro f
  induction f with
  | zero => intro r i hi hf; omega
  | succ f ih =>
    intro r i hi hf hn hK hR
    have key : (IntKind.i64.wrap (IntKind.i64.wrap ((i : Int) + s.size) + 2)) = ((i + (blank ++ s ++ blank).size : Nat) : Int) := by
      rw [wrapped (n := (i : Int) + s.size) (by omega) (by omega), wrapped (by omega) (by omega), ByteArray.size_append, ByteArray.size_append]
      have hb : blank.size = 1 := rfl
      omega
    refine back (q := cond (decide ((IntKind.i64.wrap (IntKind.i64.wrap ((i : Int) + s.size) + 2)) ≤ (t.size : Int))) (((0 ≤ (i : Int) ∧ (i : Int) ≤ (IntKind.i64.wrap (IntKind.i64.wrap ((i : Int) + s.size) + 2)) ∧ (IntKind.i64.wrap (IntKind.i64.wrap ((i : Int) + s.size) + 2)) ≤ t.size) ∧ ((blank.size : Int) + s.size ≤ 9223372036854775807) ∧ (((blank ++ s).size : Int) + blank.size ≤ 9223372036854775807)) ∧
      cond (t.extract (i : Int).toNat (IntKind.i64.wrap (IntKind.i64.wrap ((i : Int) + s.size) + 2)).toNat == blank ++ s ++ blank) (K .ret (stIsW t s true i)) (iter (exec ⟨Try.prog, E, elt, sum, plain, plainOK, inv, invOK⟩ 28 MIsW F 0 lIsW) (MIsW 0) f (r + 1) (stIsW t s false (IntKind.i64.wrap (i + 1))) K)) (K (.exit 0) (stIsW t s false i))) (by kernel_rfl) ?_
    rw [key]
    have hsz : (blank ++ s ++ blank).size = s.size + 2 := by
      rw [ByteArray.size_append, ByteArray.size_append]
      have hb : blank.size = 1 := rfl
      omega
    have hl : t.data.toList.length = t.size := by simp
    generalize hp : blank ++ s ++ blank = p at *
    by_cases h : i + p.size ≤ t.size
    · have h1 : decide (((i + p.size : Nat) : Int) ≤ (t.size : Int)) = true := by
        simp only [decide_eq_true_eq]
        omega
      rw [h1]
      refine ⟨⟨⟨by omega, by omega, by omega⟩, ?_, ?_⟩, ?_⟩
      · have hb : blank.size = 1 := rfl
        omega
      · rw [ByteArray.size_append]
        have hb : blank.size = 1 := rfl
        omega
      · show cond (t.extract i (i + p.size) == p) _ _
        rw [ext_occ t p i h]
        cases ho : Lib.occAt t.data.toList p.data.toList i
        · have h6 : IntKind.i64.wrap ((i : Int) + 1) = ((i + 1 : Nat) : Int) := by
            rw [wrapped (by omega) (by omega)]
            rfl
          show iter _ _ _ _ _ _
          rw [h6]
          exact ih (r + 1) (i + 1) (by omega) (by omega) (hn.succ ho) hK hR
        · refine hR ?_ _
          have := Lib.index_first (s := t.data.toList) (sub := p.data.toList) (i := i) (by omega) ho hn
          unfold Lib.contains
          rw [this]
          simp
    · have h1 : decide (((i + p.size : Nat) : Int) ≤ (t.size : Int)) = false := by
        simp only [decide_eq_false_iff_not]
        omega
      rw [h1]
      refine hK ?_ _
      unfold Lib.contains
      rw [decide_eq_false_iff_not]
      intro h0
      have hr := Lib.index_room _ _ h0
      rcases Lib.index_spec t.data.toList p.data.toList with ⟨q1, _⟩ | ⟨j, q1, q2, q3, q4⟩
      · omega
      · have hpl : p.data.toList.length = p.size := by simp
        have : j < i := by omega
        rw [hn j this] at q3
        cases q3

noncomputable def addRVN (C : Cfg U) : Cfg U := (((C.add 70 mReserved).add 68 mWithin).add 69 mIsWord).add 44 mVN
set_option maxRecDepth 100000 in
theorem sRVN {C : Cfg U} (hs : SumOK C) (hP : C.P = Try.prog) : SumOK (addRVN C) := by
  obtain ⟨P, E, elt, sum, plain, plainOK, inv, invOK⟩ := C
  obtain rfl : P = Try.prog := hP
  refine (((hs.add mixed (fn := Try.f70) (c := bRsv) Try.func70 (by kernel_rfl) rfl ?_).add mixed (fn := Try.f68) (c := bWi2) Try.func68 (by kernel_rfl) rfl ?_).add mixed (fn := Try.f69) (c := bIsW) Try.func69 (by kernel_rfl) rfl ?_).add mixed (fn := Try.f44) (c := bRVN) Try.func44 (by kernel_rfl) rfl ?_
  · intro xs cs r h hcs
    unfold mReserved at h
    split at h
    · cases h
      exact ⟨by kernel_rfl, MN, 0, false, back (q := AVal.str (U := U) words = .str words) (by kernel_rfl) rfl⟩
    · cases h
  · intro xs cs r h hcs
    unfold mWithin at h
    split at h
    · rename_i x a b
      cases h
      exact ⟨by kernel_rfl, MN, 0, false, back (q := AVal.bool (U := U) (decide (a ≤ x) && decide (x ≤ b)) = .bool (decide (a ≤ x) && decide (x ≤ b))) (by kernel_rfl) rfl⟩
    · cases h
  · intro xs cs r h hcs
    unfold mIsWord at h
    split at h
    · rename_i t s
      cases h
      obtain ⟨ht, hs'⟩ : t.size ≤ 1000 ∧ s.size ≤ 1000 := hcs
      refine ⟨by kernel_rfl, MIsW, t.size + 1, false, ?_⟩
      conv => whnf
      refine loopIsW (C := ((Cfg.add ⟨Try.prog, E, elt, sum, plain, plainOK, inv, invOK⟩ 70 mReserved).add 68 mWithin)) rfl t s ht hs' _ _ (t.size + 1) 0 0 (by omega) (by omega) (Lib.NoOcc.zero _ _) (fun q j => ?_) (fun q j => ?_)
      · refine back (q := AVal.bool (U := U) false = .bool (Lib.contains t.data.toList (blank ++ s ++ blank).data.toList)) (by kernel_rfl) ?_
        rw [q]
      · refine back (q := AVal.bool (U := U) true = .bool (Lib.contains t.data.toList (blank ++ s ++ blank).data.toList)) (by kernel_rfl) ?_
        rw [q]
    · cases h
  · intro xs cs r h hcs
    unfold mVN at h
    split at h
    · rename_i s
      cases h
      have hsz : s.size ≤ 1000 := hcs
      refine ⟨by kernel_rfl, MRVN, s.size + 1, false, ?_⟩
      have hq : (decide ((s.size : Int) < 1) || decide (8 < (s.size : Int))) = !(decide (1 ≤ (s.size : Int)) && decide ((s.size : Int) ≤ 8)) := by
        rw [Bool.not_and]
        congr 1
        · rw [← decide_not]
          exact decide_eq_decide.2 (by omega)
        · rw [← decide_not]
          exact decide_eq_decide.2 (by omega)
      conv => whnf
      refine ⟨⟨fun h => ?_, fun h => ?_⟩, ?_⟩
      · rw [← hq] at h
        simp only [Bool.or_eq_false_iff, decide_eq_false_iff_not] at h
        exact ⟨by omega, by omega⟩
      · rw [← hq] at h
        simp only [Bool.or_eq_false_iff, decide_eq_false_iff_not] at h
        exact ⟨by omega, by omega⟩
      conv => whnf
      cases hX : (!(decide (1 ≤ (s.size : Int)) && decide ((s.size : Int) ≤ 8)) || decide (((s.data.toList.getD (Int.toNat 0) 0).toNat : Int) < 97) || decide (122 < ((s.data.toList.getD (Int.toNat 0) 0).toNat : Int)))
      case true =>
        refine back (q := AVal.bool (U := U) false = .bool (vn s)) (by kernel_rfl) ?_
        unfold vn chr
        rw [hq, hX]
        rfl
      case false =>
        conv => whnf
        refine loopRVN (C := ((Cfg.add (Cfg.add ⟨Try.prog, E, elt, sum, plain, plainOK, inv, invOK⟩ 70 mReserved) 68 mWithin).add 69 mIsWord)) rfl s hsz _ _ (s.size + 1) 0 0 (by omega) (by omega) (fun q => ?_) (fun q j => ?_)
        · refine back (q := (words.size ≤ 1000 ∧ s.size ≤ 1000) ∧ AVal.bool (U := U) (!Lib.contains words.data.toList (blank ++ s ++ blank).data.toList) = .bool (vn s)) (by kernel_rfl) ?_
          have hw : words.size ≤ 1000 := of_decide_eq_true (by kernel_rfl)
          refine ⟨⟨hw, hsz⟩, ?_⟩
          unfold vn chr
          rw [hq, hX, q]
          rfl
        · refine back (q := AVal.bool (U := U) false = .bool (vn s)) (by kernel_rfl) ?_
          unfold vn chr
          rw [hq, hX, q]
          rfl
    · cases h
end
end Go.Proofs.Ytohecfbnmmgimaa
