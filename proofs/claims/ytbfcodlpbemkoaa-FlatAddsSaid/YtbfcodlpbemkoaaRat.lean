/- Rationals: the walks. -/
import Derived.Test.YtbfcodlpbemkoaaVmX
import Derived.Test.YtbfcodlpbemkoaaRows
namespace Go.Proofs.Ytbfcodlpbemkoaa
open Go.Vm
set_option linter.unusedVariables false

def U0 : Univ := { τ := Empty, deq := fun a => a.elim, T := fun a => a.elim, ety := fun a => a.elim, size := fun a => a.elim }
def E0 : Enc U0 := { enc := fun t => Empty.elim t, dec := fun t => Empty.elim t, dflt := fun t => Empty.elim t, enc_len := fun t => Empty.elim t, enc_flat := fun t => Empty.elim t, dec_len := fun t => Empty.elim t, dec_enc := fun t => Empty.elim t, pos := fun t => Empty.elim t }

theorem plain0 : ∀ t, Nat.beq t 23 = true → PlainAt Try.prog t := fun t h => by
  obtain rfl := Nat.eq_of_beq_eq_true h
  exact ⟨by kernel_rfl, by kernel_rfl, by kernel_rfl⟩
noncomputable def C0 : Cfg U0 := { P := Try.prog, E := E0, elt := fun _ => none, sum := fun _ => none, plain := fun t => Nat.beq t 23, plainOK := plain0 }
theorem s0 : SumOK C0 := fun f m h => by cases h
theorem mixed : Try.prog.follows .mixedOrders = true := Checked.mixed Try.checked

def M0 : Nat → Canon U0 := fun _ => ⟨[], [], []⟩

def maxNum : Int := 16777216
def maxDen : Int := 4096
def valid (n d : Int) : Bool := decide (1 ≤ d) && decide (d ≤ 4096) && decide (-16777216 ≤ n) && decide (n ≤ 16777216)

abbrev vi (n : Int) : AVal U0 := .int .i64 n
abbrev rt (n d : Int) : AVal U0 := .agg [vi n, vi d]

noncomputable def b14 : Code := (Try.f14.body).getD .skip
noncomputable def b15 : Code := (Try.f15.body).getD .skip
noncomputable def b16 : Code := (Try.f16.body).getD .skip
noncomputable def b17 : Code := (Try.f17.body).getD .skip
noncomputable def b18 : Code := (Try.f18.body).getD .skip
noncomputable def b19 : Code := (Try.f19.body).getD .skip
noncomputable def b5 : Code := (Try.f5.body).getD .skip
noncomputable def b6 : Code := (Try.f6.body).getD .skip
noncomputable def b7 : Code := (Try.f7.body).getD .skip
noncomputable def b8 : Code := (Try.f8.body).getD .skip
noncomputable def b9 : Code := (Try.f9.body).getD .skip
noncomputable def b10 : Code := (Try.f10.body).getD .skip
noncomputable def b11 : Code := (Try.f11.body).getD .skip
noncomputable def b12 : Code := (Try.f12.body).getD .skip
noncomputable def b13 : Code := (Try.f13.body).getD .skip
noncomputable def b20 : Code := (Try.f20.body).getD .skip
noncomputable def b21 : Code := (Try.f21.body).getD .skip
noncomputable def b22 : Code := (Try.f22.body).getD .skip

def m14 : Model U0
  | [.agg [.int .i64 n, .int .i64 d]] => some ([], .bool (valid n d))
  | _ => none
noncomputable def C14 : Cfg U0 := C0.add 14 m14
theorem s14 : SumOK C14 := by
  refine s0.add mixed (fn := Try.f14) (c := b14) rfl rfl rfl ?_
  intro xs cs r h hc
  unfold m14 at h
  split at h
  · rename_i n d
    cases h
    exact ⟨rfl, M0, 0, back (q := AVal.bool (U := U0) _ = .bool (valid n d)) (by kernel_rfl) rfl⟩
  · cases h

def m15 : Model U0
  | [.agg [.int .i64 n, .int .i64 d]] => some ([], rt n d)
  | _ => none
noncomputable def C15 : Cfg U0 := (C14.add 15 m15).add 17 m15
theorem s15 : SumOK C15 := by
  refine (s14.add mixed (fn := Try.f15) (c := b15) rfl rfl rfl ?_).add mixed (fn := Try.f17) (c := b17) rfl rfl rfl ?_
  · intro xs cs r h hc
    unfold m15 at h
    split at h
    · rename_i n d
      cases h
      exact ⟨rfl, M0, 0, back (q := rt n d = rt n d) (by kernel_rfl) rfl⟩
    · cases h
  · intro xs cs r h hc
    unfold m15 at h
    split at h
    · rename_i n d
      cases h
      exact ⟨rfl, M0, 0, back (q := rt n d = rt n d) (by kernel_rfl) rfl⟩
    · cases h

def m22 : Model U0
  | [.int .i64 x, .int .i64 a, .int .i64 b] => some ([], .bool (decide (a ≤ x) && decide (x ≤ b)))
  | _ => none
noncomputable def C22 : Cfg U0 := C15.add 22 m22
theorem s22 : SumOK C22 := by
  refine s15.add mixed (fn := Try.f22) (c := b22) rfl rfl rfl ?_
  intro xs cs r h hc
  unfold m22 at h
  split at h
  · rename_i x a b
    cases h
    exact ⟨rfl, M0, 0, back (q := AVal.bool (U := U0) (decide (a ≤ x) && decide (x ≤ b)) = .bool (decide (a ≤ x) && decide (x ≤ b))) (by kernel_rfl) rfl⟩
  · cases h

noncomputable def C18 : Cfg U0 := C22.add 18 m14
theorem s18 : SumOK C18 := by
  refine s22.add mixed (fn := Try.f18) (c := b18) rfl rfl rfl ?_
  intro xs cs r h hc
  unfold m14 at h
  split at h
  · rename_i n d
    cases h
    refine ⟨rfl, M0, 0, back (q := AVal.bool (U := U0) ((decide (1 ≤ d) && decide (d ≤ 4096)) && (decide (-16777216 ≤ n) && decide (n ≤ 16777216))) = .bool (valid n d)) (by kernel_rfl) ?_⟩
    simp [valid, Bool.and_assoc]
  · cases h

/-! ### lowest -/
def M19 : Nat → Canon U0 := fun _ => ⟨[0, 1, 4, 5, 6], [4], []⟩
def st19 (n d a b : Int) : ASt U0 :=
  ⟨fun u => cond (Nat.beq u 0) (vi n) (cond (Nat.beq u 1) (vi d) (cond (Nat.beq u 4) (.ptr 4 0) (cond (Nat.beq u 5) (vi a) (cond (Nat.beq u 6) (vi b) .any)))), fun u => cond (Nat.beq u 4) (some (.cells [vi 0, vi 0])) none⟩
noncomputable def l19 : Code := (loopsOf b19).getD 0 .skip

theorem gcd_step {a b : Int} (ha : 0 ≤ a) (hb : 0 ≤ b) : Int.gcd b (a.tmod b) = Int.gcd a b := by
  rw [Int.tmod_eq_emod_of_nonneg ha]
  obtain ⟨m, rfl⟩ := Int.eq_ofNat_of_zero_le ha
  obtain ⟨k, rfl⟩ := Int.eq_ofNat_of_zero_le hb
  show Nat.gcd k (m % k) = Nat.gcd m k
  rw [Nat.gcd_comm k, ← Nat.gcd_rec, Nat.gcd_comm]

theorem loop19 (n d : Int) (F : Nat) (K : AEx → ASt U0 → Prop) : ∀ (f : Nat) (a b : Int), 0 ≤ a → 0 ≤ b → b < f → (∀ s, s = st19 n d (Int.gcd a b) 0 → K (.exit 0) s) → iter (exec C18 28 M19 F 0 l19) (M19 0) f (st19 n d a b) K := by
  intro f
  induction f with
  | zero => intro a b ha hb hf; omega
  | succ f ih =>
    intro a b ha hb hf hK
    refine back (q := cond (b != 0) (b ≠ 0 ∧ iter (exec C18 28 M19 F 0 l19) (M19 0) f (st19 n d b (a.tmod b)) K) (K (.exit 0) (st19 n d a b))) (by kernel_rfl) ?_
    by_cases h : b = 0
    · subst h
      refine hK _ ?_
      rw [Int.gcd_zero_right]
      congr 1
      omega
    · have h1 : (b != 0) = true := by simpa using h
      rw [h1]
      refine ⟨h, ih b (a.tmod b) hb (Int.tmod_nonneg _ ha) ?_ ?_⟩
      · have := Int.tmod_lt_of_pos a (show 0 < b by omega)
        omega
      · intro s hs
        refine hK s ?_
        rw [hs]
        congr 2
        exact gcd_step ha hb

theorem wrapped {n : Int} (h1 : -9223372036854775808 ≤ n) (h2 : n ≤ 9223372036854775807) : IntKind.i64.wrap n = n := by
  rw [IntKind.wrap_i64]
  omega

/-- The rational num/den, reduced. -/
def low (n d : Int) : AVal U0 := rt (n.tdiv (Int.gcd n d)) (d.tdiv (Int.gcd n d))

theorem tdiv_bound {n g : Int} (hg : 1 ≤ g) (h1 : -4611686018427387904 ≤ n) (h2 : n ≤ 4611686018427387904) : -9223372036854775808 ≤ n.tdiv g ∧ n.tdiv g ≤ 9223372036854775807 := by
  have h3 : (n.tdiv g).natAbs ≤ n.natAbs := by
    rw [Int.natAbs_tdiv]
    exact Nat.div_le_self _ _
  omega

def m19 : Model U0
  | [.int .i64 n, .int .i64 d] => some ([-4611686018427387904 ≤ n ∧ n ≤ 4611686018427387904 ∧ 1 ≤ d ∧ d ≤ 4611686018427387904], low n d)
  | _ => none
noncomputable def C19 : Cfg U0 := C18.add 19 m19
theorem s19 : SumOK C19 := by
  refine s18.add mixed (fn := Try.f19) (c := b19) rfl rfl rfl ?_
  intro xs cs r h hc
  unfold m19 at h
  split at h
  · rename_i n d
    cases h
    obtain ⟨hn1, hn2, hd1, hd2⟩ : -4611686018427387904 ≤ n ∧ n ≤ 4611686018427387904 ∧ 1 ≤ d ∧ d ≤ 4611686018427387904 := hc
    have hg : 1 ≤ (Int.gcd n d : Int) := by
      have := Int.gcd_pos_of_ne_zero_right n (show d ≠ 0 by omega)
      omega
    have hw1 := wrapped (tdiv_bound hg hn1 hn2).1 (tdiv_bound hg hn1 hn2).2
    have hw2 := wrapped (tdiv_bound hg (show _ ≤ d by omega) hd2).1 (tdiv_bound hg (show _ ≤ d by omega) hd2).2
    have fin : ∀ g : Int, g = Int.gcd n d → g ≠ 0 ∧ g ≠ 0 ∧ rt (IntKind.i64.wrap (n.tdiv g)) (IntKind.i64.wrap (d.tdiv g)) = low n d := by
      rintro g rfl
      refine ⟨by omega, by omega, ?_⟩
      rw [hw1, hw2]
      rfl
    refine ⟨rfl, M19, d.toNat + 1, ?_⟩
    conv => whnf
    cases hlt : decide (n < 0)
    · conv => whnf
      have hlt' : 0 ≤ n := by simpa using hlt
      refine loop19 n d _ _ (d.toNat + 1) n d (by omega) (by omega) (by omega) ?_
      rintro s rfl
      exact back (q := (Int.gcd n d : Int) ≠ 0 ∧ (Int.gcd n d : Int) ≠ 0 ∧ rt (IntKind.i64.wrap (n.tdiv (Int.gcd n d))) (IntKind.i64.wrap (d.tdiv (Int.gcd n d))) = low n d) (by kernel_rfl) (fin _ rfl)
    · conv => whnf
      have hlt' : n < 0 := by simpa using hlt
      have hw : IntKind.i64.wrap (0 - n) = -n := by rw [wrapped (by omega) (by omega)]; omega
      refine loop19 n d _ _ (d.toNat + 1) (IntKind.i64.wrap (0 - n)) d (by omega) (by omega) (by omega) ?_
      rintro s rfl
      exact back (q := (Int.gcd (IntKind.i64.wrap (0 - n)) d : Int) ≠ 0 ∧ (Int.gcd (IntKind.i64.wrap (0 - n)) d : Int) ≠ 0 ∧ rt (IntKind.i64.wrap (n.tdiv (Int.gcd (IntKind.i64.wrap (0 - n)) d))) (IntKind.i64.wrap (d.tdiv (Int.gcd (IntKind.i64.wrap (0 - n)) d))) = low n d) (by kernel_rfl) (fin _ (by rw [hw, Int.neg_gcd]))
  · cases h

/-! ### reduced -/
def M16 : Nat → Canon U0 := fun _ => ⟨[1, 2, 3, 4], [1, 2], []⟩
def st16 (n d a b : Int) : ASt U0 :=
  ⟨fun u => cond (Nat.beq u 1) (.ptr 1 0) (cond (Nat.beq u 2) (.ptr 2 0) (cond (Nat.beq u 3) (vi a) (cond (Nat.beq u 4) (vi b) .any))), fun u => cond (Nat.beq u 1) (some (.cells [vi n, vi d])) (cond (Nat.beq u 2) (some (.cells [vi 0, vi 0])) none)⟩
noncomputable def l16 : Code := (loopsOf b16).getD 0 .skip

theorem loop16 (n d : Int) (F : Nat) (K : AEx → ASt U0 → Prop) : ∀ (f : Nat) (a b : Int), 0 ≤ a → 0 ≤ b → a < f → (∀ s, s = st16 n d 0 (Int.gcd a b) → K (.exit 0) s) → iter (exec C19 28 M16 F 0 l16) (M16 0) f (st16 n d a b) K := by
  intro f
  induction f with
  | zero => intro a b ha hb hf; omega
  | succ f ih =>
    intro a b ha hb hf hK
    refine back (q := cond (a != 0) (a ≠ 0 ∧ iter (exec C19 28 M16 F 0 l16) (M16 0) f (st16 n d (b.tmod a) a) K) (K (.exit 0) (st16 n d a b))) (by kernel_rfl) ?_
    by_cases h : a = 0
    · subst h
      refine hK _ ?_
      rw [Int.gcd_zero_left]
      congr 1
      omega
    · have h1 : (a != 0) = true := by simpa using h
      rw [h1]
      refine ⟨h, ih (b.tmod a) a (Int.tmod_nonneg _ hb) ha ?_ ?_⟩
      · have := Int.tmod_lt_of_pos b (show 0 < a by omega)
        omega
      · intro s hs
        refine hK s ?_
        rw [hs]
        congr 2
        rw [Int.gcd_comm (b.tmod a), gcd_step hb ha, Int.gcd_comm]

def m16 : Model U0
  | [.agg [.int .i64 n, .int .i64 d]] => some ([-4611686018427387904 ≤ n ∧ n ≤ 4611686018427387904 ∧ 1 ≤ d ∧ d ≤ 4611686018427387904], low n d)
  | _ => none
noncomputable def C16 : Cfg U0 := C19.add 16 m16
theorem s16 : SumOK C16 := by
  refine s19.add mixed (fn := Try.f16) (c := b16) rfl rfl rfl ?_
  intro xs cs r h hc
  unfold m16 at h
  split at h
  · rename_i n d
    cases h
    obtain ⟨hn1, hn2, hd1, hd2⟩ : -4611686018427387904 ≤ n ∧ n ≤ 4611686018427387904 ∧ 1 ≤ d ∧ d ≤ 4611686018427387904 := hc
    have hg : 1 ≤ (Int.gcd n d : Int) := by
      have := Int.gcd_pos_of_ne_zero_right n (show d ≠ 0 by omega)
      omega
    have hw1 := wrapped (tdiv_bound hg hn1 hn2).1 (tdiv_bound hg hn1 hn2).2
    have hw2 := wrapped (tdiv_bound hg (show _ ≤ d by omega) hd2).1 (tdiv_bound hg (show _ ≤ d by omega) hd2).2
    have fin : ∀ g : Int, g = Int.gcd n d → g ≠ 0 ∧ g ≠ 0 ∧ rt (IntKind.i64.wrap (n.tdiv g)) (IntKind.i64.wrap (d.tdiv g)) = low n d := by
      rintro g rfl
      refine ⟨by omega, by omega, ?_⟩
      rw [hw1, hw2]
      rfl
    refine ⟨rfl, M16, n.natAbs + 1, ?_⟩
    conv => whnf
    cases hlt : decide (n < 0)
    · conv => whnf
      have hlt' : 0 ≤ n := by simpa using hlt
      refine loop16 n d _ _ (n.natAbs + 1) n d (by omega) (by omega) (by omega) ?_
      rintro s rfl
      exact back (q := (Int.gcd n d : Int) ≠ 0 ∧ (Int.gcd n d : Int) ≠ 0 ∧ rt (IntKind.i64.wrap (n.tdiv (Int.gcd n d))) (IntKind.i64.wrap (d.tdiv (Int.gcd n d))) = low n d) (by kernel_rfl) (fin _ rfl)
    · conv => whnf
      have hlt' : n < 0 := by simpa using hlt
      have hw : IntKind.i64.wrap (0 - n) = -n := by rw [wrapped (by omega) (by omega)]; omega
      refine loop16 n d _ _ (n.natAbs + 1) (IntKind.i64.wrap (0 - n)) d (by omega) (by omega) (by omega) ?_
      rintro s rfl
      exact back (q := (Int.gcd (IntKind.i64.wrap (0 - n)) d : Int) ≠ 0 ∧ (Int.gcd (IntKind.i64.wrap (0 - n)) d : Int) ≠ 0 ∧ rt (IntKind.i64.wrap (n.tdiv (Int.gcd (IntKind.i64.wrap (0 - n)) d))) (IntKind.i64.wrap (d.tdiv (Int.gcd (IntKind.i64.wrap (0 - n)) d))) = low n d) (by kernel_rfl) (fin _ (by rw [hw, Int.neg_gcd]))
  · cases h

theorem valid_iff {n d : Int} : valid n d = true ↔ (1 ≤ d ∧ d ≤ 4096 ∧ -16777216 ≤ n ∧ n ≤ 16777216) := by
  simp [valid, and_assoc]

theorem mul_bound {a b A B : Int} (ha : -A ≤ a) (ha' : a ≤ A) (hb : 0 ≤ b) (hb' : b ≤ B) : -(A * B) ≤ a * b ∧ a * b ≤ A * B := by
  have hA : 0 ≤ A := by omega
  have h1 : A * b ≤ A * B := Int.mul_le_mul_of_nonneg_left hb' hA
  have h2 : a * b ≤ A * b := Int.mul_le_mul_of_nonneg_right ha' hb
  have h3 : -A * b ≤ a * b := Int.mul_le_mul_of_nonneg_right ha hb
  rw [Int.neg_mul] at h3
  omega

/-! ### plus and times -/
def m20 : Model U0
  | [.agg [.int .i64 a, .int .i64 b], .agg [.int .i64 c, .int .i64 d]] => some ([valid a b = true ∧ valid c d = true], low (a * d + c * b) (b * d))
  | _ => none
noncomputable def C20 : Cfg U0 := C16.add 20 m20
theorem s20 : SumOK C20 := by
  refine s16.add mixed (fn := Try.f20) (c := b20) rfl rfl rfl ?_
  intro xs cs r h hc
  unfold m20 at h
  split at h
  · rename_i a b c d
    cases h
    obtain ⟨h1, h2⟩ : valid a b = true ∧ valid c d = true := hc
    rw [valid_iff] at h1 h2
    have e1 := mul_bound h1.2.2.1 h1.2.2.2 (show 0 ≤ d by omega) h2.2.1
    have e2 := mul_bound h2.2.2.1 h2.2.2.2 (show 0 ≤ b by omega) h1.2.1
    have e3 := mul_bound (show -4096 ≤ b by omega) h1.2.1 (show 0 ≤ d by omega) h2.2.1
    have e4 : 1 ≤ b * d := Int.mul_pos (by omega) (by omega)
    have w1 := wrapped (n := a * d) (by omega) (by omega)
    have w2 := wrapped (n := c * b) (by omega) (by omega)
    have w3 := wrapped (n := b * d) (by omega) (by omega)
    have w4 := wrapped (n := a * d + c * b) (by omega) (by omega)
    refine ⟨rfl, M0, 0, back (q := (-4611686018427387904 ≤ IntKind.i64.wrap (IntKind.i64.wrap (a * d) + IntKind.i64.wrap (c * b)) ∧ IntKind.i64.wrap (IntKind.i64.wrap (a * d) + IntKind.i64.wrap (c * b)) ≤ 4611686018427387904 ∧ 1 ≤ IntKind.i64.wrap (b * d) ∧ IntKind.i64.wrap (b * d) ≤ 4611686018427387904) ∧
      low (IntKind.i64.wrap (IntKind.i64.wrap (a * d) + IntKind.i64.wrap (c * b))) (IntKind.i64.wrap (b * d)) = low (a * d + c * b) (b * d)) (by kernel_rfl) ?_⟩
    rw [w1, w2, w3, w4]
    exact ⟨by omega, rfl⟩
  · cases h

def m21 : Model U0
  | [.agg [.int .i64 a, .int .i64 b], .agg [.int .i64 c, .int .i64 d]] => some ([valid a b = true ∧ valid c d = true], low (a * c) (b * d))
  | _ => none
noncomputable def C21 : Cfg U0 := C20.add 21 m21
theorem s21 : SumOK C21 := by
  refine s20.add mixed (fn := Try.f21) (c := b21) rfl rfl rfl ?_
  intro xs cs r h hc
  unfold m21 at h
  split at h
  · rename_i a b c d
    cases h
    obtain ⟨h1, h2⟩ : valid a b = true ∧ valid c d = true := hc
    rw [valid_iff] at h1 h2
    have e1 : (a * c).natAbs ≤ 16777216 * 16777216 := by
      rw [Int.natAbs_mul]
      exact Nat.mul_le_mul (by omega) (by omega)
    have e3 := mul_bound (show -4096 ≤ b by omega) h1.2.1 (show 0 ≤ d by omega) h2.2.1
    have e4 : 1 ≤ b * d := Int.mul_pos (by omega) (by omega)
    have w1 := wrapped (n := a * c) (by omega) (by omega)
    have w3 := wrapped (n := b * d) (by omega) (by omega)
    refine ⟨rfl, M0, 0, back (q := (-4611686018427387904 ≤ IntKind.i64.wrap (a * c) ∧ IntKind.i64.wrap (a * c) ≤ 4611686018427387904 ∧ 1 ≤ IntKind.i64.wrap (b * d) ∧ IntKind.i64.wrap (b * d) ≤ 4611686018427387904) ∧
      low (IntKind.i64.wrap (a * c)) (IntKind.i64.wrap (b * d)) = low (a * c) (b * d)) (by kernel_rfl) ?_⟩
    rw [w1, w3]
    exact ⟨by omega, rfl⟩
  · cases h

/-! ### Reduce -/
/-- What stands where it is right, else 0. -/
def at? (v : Bool) (x : Int) : Int := bif v then x else 0
def lowN (n d : Int) : Int := n.tdiv (Int.gcd n d)
def lowD (n d : Int) : Int := d.tdiv (Int.gcd n d)
def red (n d : Int) : AVal U0 := .tup [rt (at? (valid n d) (lowN n d)) (at? (valid n d) (lowD n d)), vi (at? (!valid n d) 1)]
def m5 : Model U0
  | [.agg [.int .i64 n, .int .i64 d]] => some ([], red n d)
  | _ => none
def big (n d : Int) : Prop := -4611686018427387904 ≤ n ∧ n ≤ 4611686018427387904 ∧ 1 ≤ d ∧ d ≤ 4611686018427387904
theorem red_ok (n d : Int) : cond (!valid n d) (AVal.tup [rt 0 0, vi 1] = red n d) (big n d ∧ AVal.tup [low n d, vi 0] = red n d) := by
  unfold red
  cases h : valid n d
  · rfl
  · rw [valid_iff] at h
    exact ⟨⟨by omega, by omega, by omega, by omega⟩, rfl⟩
noncomputable def C6 : Cfg U0 := (C21.add 5 m5).add 6 m5
theorem s6 : SumOK C6 := by
  refine (s21.add mixed (fn := Try.f5) (c := b5) rfl rfl rfl ?_).add mixed (fn := Try.f6) (c := b6) rfl rfl rfl ?_
  · intro xs cs r h hc
    unfold m5 at h
    split at h
    · rename_i n d
      cases h
      exact ⟨rfl, M0, 0, back (q := cond (!valid n d) (AVal.tup [rt 0 0, vi 1] = red n d) (big n d ∧ AVal.tup [low n d, vi 0] = red n d)) (by kernel_rfl) (red_ok n d)⟩
    · cases h
  · intro xs cs r h hc
    unfold m5 at h
    split at h
    · rename_i n d
      cases h
      exact ⟨rfl, M0, 0, back (q := cond (!valid n d) (AVal.tup [rt 0 0, vi 1] = red n d) (big n d ∧ AVal.tup [low n d, vi 0] = red n d)) (by kernel_rfl) (red_ok n d)⟩
    · cases h

/-! ### Add -/
def sum (a b c d : Int) : AVal U0 :=
  .tup [rt (at? (valid a b && valid c d && valid (lowN (a * d + c * b) (b * d)) (lowD (a * d + c * b) (b * d))) (lowN (a * d + c * b) (b * d)))
      (at? (valid a b && valid c d && valid (lowN (a * d + c * b) (b * d)) (lowD (a * d + c * b) (b * d))) (lowD (a * d + c * b) (b * d))),
    vi (bif valid a b && valid c d then at? (!valid (lowN (a * d + c * b) (b * d)) (lowD (a * d + c * b) (b * d))) 4 else 1)]
def m7 : Model U0
  | [.agg [.int .i64 a, .int .i64 b], .agg [.int .i64 c, .int .i64 d]] => some ([], sum a b c d)
  | _ => none
theorem sum_ok (a b c d X Y : Int) (p : Prop) (hp : valid a b = true → valid c d = true → X = a * d + c * b ∧ Y = b * d ∧ p) : cond (!valid a b || !valid c d) (AVal.tup [rt 0 0, vi 1] = sum a b c d)
    (p ∧ cond (!valid (lowN X Y) (lowD X Y)) (AVal.tup [rt 0 0, vi 4] = sum a b c d) (AVal.tup [low X Y, vi 0] = sum a b c d)) := by
  unfold sum
  cases h1 : valid a b
  · rfl
  · cases h2 : valid c d
    · rfl
    · obtain ⟨rfl, rfl, hp'⟩ := hp h1 h2
      refine ⟨hp', ?_⟩
      cases h3 : valid (lowN (a * d + c * b) (b * d)) (lowD (a * d + c * b) (b * d)) <;> rfl
noncomputable def C8 : Cfg U0 := (C6.add 7 m7).add 8 m7
theorem s8 : SumOK C8 := by
  refine (s6.add mixed (fn := Try.f7) (c := b7) rfl rfl rfl ?_).add mixed (fn := Try.f8) (c := b8) rfl rfl rfl ?_
  · intro xs cs r h hc
    unfold m7 at h
    split at h
    · rename_i a b c d
      cases h
      exact ⟨rfl, M0, 0, back (q := cond (!valid a b || !valid c d) (AVal.tup [rt 0 0, vi 1] = sum a b c d)
        ((valid a b = true ∧ valid c d = true) ∧ cond (!valid (lowN (a * d + c * b) (b * d)) (lowD (a * d + c * b) (b * d))) (AVal.tup [rt 0 0, vi 4] = sum a b c d) (AVal.tup [low (a * d + c * b) (b * d), vi 0] = sum a b c d))) (by kernel_rfl)
        (sum_ok a b c d _ _ _ fun h1 h2 => ⟨rfl, rfl, h1, h2⟩)⟩
    · cases h
  · intro xs cs r h hc
    unfold m7 at h
    split at h
    · rename_i a b c d
      cases h
      refine ⟨rfl, M0, 0, back (q := cond (!valid a b || !valid c d) (AVal.tup [rt 0 0, vi 1] = sum a b c d)
        (big (IntKind.i64.wrap (IntKind.i64.wrap (a * d) + IntKind.i64.wrap (c * b))) (IntKind.i64.wrap (b * d)) ∧ cond (!valid (lowN (IntKind.i64.wrap (IntKind.i64.wrap (a * d) + IntKind.i64.wrap (c * b))) (IntKind.i64.wrap (b * d))) (lowD (IntKind.i64.wrap (IntKind.i64.wrap (a * d) + IntKind.i64.wrap (c * b))) (IntKind.i64.wrap (b * d))))
          (AVal.tup [rt 0 0, vi 4] = sum a b c d) (AVal.tup [low (IntKind.i64.wrap (IntKind.i64.wrap (a * d) + IntKind.i64.wrap (c * b))) (IntKind.i64.wrap (b * d)), vi 0] = sum a b c d))) (by kernel_rfl)
        (sum_ok a b c d _ _ _ fun h1 h2 => ?_)⟩
      rw [valid_iff] at h1 h2
      have e1 := mul_bound h1.2.2.1 h1.2.2.2 (show 0 ≤ d by omega) h2.2.1
      have e2 := mul_bound h2.2.2.1 h2.2.2.2 (show 0 ≤ b by omega) h1.2.1
      have e3 := mul_bound (show -4096 ≤ b by omega) h1.2.1 (show 0 ≤ d by omega) h2.2.1
      have e4 : 1 ≤ b * d := Int.mul_pos (by omega) (by omega)
      have w1 := wrapped (n := a * d) (by omega) (by omega)
      have w2 := wrapped (n := c * b) (by omega) (by omega)
      have w3 := wrapped (n := b * d) (by omega) (by omega)
      have w4 := wrapped (n := a * d + c * b) (by omega) (by omega)
      rw [w1, w2, w3, w4]
      exact ⟨rfl, rfl, by omega, by omega, by omega, by omega⟩
    · cases h

/-! ### Compare -/
def sgn (x y : Int) : Int := bif decide (x < y) then -1 else bif decide (y < x) then 1 else 0
def cmp (a b c d : Int) : AVal U0 := .tup [vi (at? (valid a b && valid c d) (sgn (a * d) (c * b))), vi (at? (!(valid a b && valid c d)) 1)]
def m9 : Model U0
  | [.agg [.int .i64 a, .int .i64 b], .agg [.int .i64 c, .int .i64 d]] => some ([], cmp a b c d)
  | _ => none
theorem cmp_ok (a b c d : Int) (p q : Bool) (hp : valid a b = true → valid c d = true → p = decide (a * d < c * b) ∧ q = decide (c * b < a * d)) : cond (!valid a b || !valid c d) (AVal.tup [vi 0, vi 1] = cmp a b c d)
    (cond p (AVal.tup [vi (-1), vi 0] = cmp a b c d) (cond q (AVal.tup [vi 1, vi 0] = cmp a b c d) (AVal.tup [vi 0, vi 0] = cmp a b c d))) := by
  unfold cmp
  cases h1 : valid a b
  · rfl
  · cases h2 : valid c d
    · rfl
    · obtain ⟨rfl, rfl⟩ := hp h1 h2
      unfold sgn
      cases h3 : decide (a * d < c * b)
      · cases h4 : decide (c * b < a * d) <;> rfl
      · rfl
theorem cmp_wrap {a b c d : Int} (h1 : valid a b = true) (h2 : valid c d = true) : IntKind.i64.wrap (a * d) = a * d ∧ IntKind.i64.wrap (c * b) = c * b ∧ IntKind.i64.wrap (a * d - c * b) = a * d - c * b := by
  rw [valid_iff] at h1 h2
  have e1 := mul_bound h1.2.2.1 h1.2.2.2 (show 0 ≤ d by omega) h2.2.1
  have e2 := mul_bound h2.2.2.1 h2.2.2.2 (show 0 ≤ b by omega) h1.2.1
  exact ⟨wrapped (by omega) (by omega), wrapped (by omega) (by omega), wrapped (by omega) (by omega)⟩
noncomputable def C10 : Cfg U0 := (C8.add 9 m9).add 10 m9
theorem s10 : SumOK C10 := by
  refine (s8.add mixed (fn := Try.f9) (c := b9) rfl rfl rfl ?_).add mixed (fn := Try.f10) (c := b10) rfl rfl rfl ?_
  · intro xs cs r h hc
    unfold m9 at h
    split at h
    · rename_i a b c d
      cases h
      refine ⟨rfl, M0, 0, back (q := cond (!valid a b || !valid c d) (AVal.tup [vi 0, vi 1] = cmp a b c d)
        (cond (decide (IntKind.i64.wrap (IntKind.i64.wrap (a * d) - IntKind.i64.wrap (c * b)) < 0)) (AVal.tup [vi (-1), vi 0] = cmp a b c d) (cond (decide (0 < IntKind.i64.wrap (IntKind.i64.wrap (a * d) - IntKind.i64.wrap (c * b)))) (AVal.tup [vi 1, vi 0] = cmp a b c d) (AVal.tup [vi 0, vi 0] = cmp a b c d)))) (by kernel_rfl)
        (cmp_ok a b c d _ _ fun h1 h2 => ?_)⟩
      obtain ⟨w1, w2, w3⟩ := cmp_wrap h1 h2
      rw [w1, w2, w3]
      exact ⟨decide_eq_decide.2 (by omega), decide_eq_decide.2 (by omega)⟩
    · cases h
  · intro xs cs r h hc
    unfold m9 at h
    split at h
    · rename_i a b c d
      cases h
      refine ⟨rfl, M0, 0, back (q := cond (!valid a b || !valid c d) (AVal.tup [vi 0, vi 1] = cmp a b c d)
        (cond (decide (IntKind.i64.wrap (a * d) < IntKind.i64.wrap (c * b))) (AVal.tup [vi (-1), vi 0] = cmp a b c d) (cond (decide (IntKind.i64.wrap (c * b) < IntKind.i64.wrap (a * d))) (AVal.tup [vi 1, vi 0] = cmp a b c d) (AVal.tup [vi 0, vi 0] = cmp a b c d)))) (by kernel_rfl)
        (cmp_ok a b c d _ _ fun h1 h2 => ?_)⟩
      obtain ⟨w1, w2, w3⟩ := cmp_wrap h1 h2
      rw [w1, w2]
      exact ⟨rfl, rfl⟩
    · cases h

/-! ### Ticks -/
def tick (n d : Int) : AVal U0 := .tup [vi (at? (valid n d && (n * 720).tmod d == 0) ((n * 720).tdiv d)), vi (bif valid n d then at? (!((n * 720).tmod d == 0)) 5 else 1)]
def m11 : Model U0
  | [.agg [.int .i64 n, .int .i64 d]] => some ([], tick n d)
  | _ => none

theorem lowD_one {x d : Int} (hd : 1 ≤ d) : lowD x d = 1 ↔ x.tmod d = 0 := by
  unfold lowD
  have hg : 1 ≤ (Int.gcd x d : Int) := by
    have := Int.gcd_pos_of_ne_zero_right x (show d ≠ 0 by omega)
    omega
  have hdv : (Int.gcd x d : Int) ∣ d := Int.gcd_dvd_right ..
  constructor
  · intro h
    have h1 : (Int.gcd x d : Int) * d.tdiv (Int.gcd x d) = d := Int.mul_tdiv_cancel' hdv
    rw [h, Int.mul_one] at h1
    have h2 : (Int.gcd x d : Int) ∣ x := Int.gcd_dvd_left ..
    rw [h1] at h2
    exact Int.tmod_eq_zero_of_dvd h2
  · intro h
    have h2 : d ∣ x := Int.dvd_of_tmod_eq_zero h
    have h3 : (Int.gcd x d : Int) = d := by
      rw [Int.gcd_comm]
      exact (Int.gcd_eq_left_iff_dvd (by omega)).2 h2
    rw [h3]
    exact Int.tdiv_self (by omega)
theorem tick_ok (n d : Int) : cond (!valid n d) (AVal.tup [vi 0, vi 1] = tick n d) ((valid n d = true ∧ valid 720 1 = true) ∧ cond (lowD (n * 720) (d * 1) != 1) (AVal.tup [vi 0, vi 5] = tick n d) (AVal.tup [vi (lowN (n * 720) (d * 1)), vi 0] = tick n d)) := by
  unfold tick
  cases h : valid n d
  · rfl
  · refine ⟨⟨rfl, by decide⟩, ?_⟩
    rw [valid_iff] at h
    rw [Int.mul_one]
    have key := lowD_one (x := n * 720) (d := d) (by omega)
    by_cases h1 : (n * 720).tmod d = 0
    · have h2 := key.2 h1
      have h3 : (Int.gcd (n * 720) d : Int) = d := by
        have hdv : d ∣ n * 720 := Int.dvd_of_tmod_eq_zero h1
        rw [Int.gcd_comm]
        exact (Int.gcd_eq_left_iff_dvd (by omega)).2 hdv
      rw [h2, h1]
      show AVal.tup [vi (lowN (n * 720) d), vi 0] = AVal.tup [vi ((n * 720).tdiv d), vi 0]
      unfold lowN
      rw [h3]
    · have h2 : (lowD (n * 720) d != 1) = true := by
        simp only [bne_iff_ne, ne_eq]
        exact fun e => h1 (key.1 e)
      have h3 : ((n * 720).tmod d == 0) = false := by simpa using h1
      rw [h2, h3]
      rfl
theorem tick_ok2 (n d : Int) : cond (!valid n d) (AVal.tup [vi 0, vi 1] = tick n d) (d ≠ 0 ∧ cond ((IntKind.i64.wrap (n * 720)).tmod d != 0) (AVal.tup [vi 0, vi 5] = tick n d) (d ≠ 0 ∧ AVal.tup [vi (IntKind.i64.wrap ((IntKind.i64.wrap (n * 720)).tdiv d)), vi 0] = tick n d)) := by
  unfold tick
  cases h : valid n d
  · rfl
  · rw [valid_iff] at h
    have w1 := wrapped (n := n * 720) (by omega) (by omega)
    rw [w1, wrapped (tdiv_bound h.1 (by omega) (by omega)).1 (tdiv_bound h.1 (by omega) (by omega)).2]
    refine ⟨by omega, ?_⟩
    by_cases h1 : (n * 720).tmod d = 0
    · rw [h1]
      exact ⟨by omega, rfl⟩
    · have h2 : ((n * 720).tmod d != 0) = true := by simpa using h1
      have h3 : ((n * 720).tmod d == 0) = false := by simpa using h1
      rw [h2, h3]
      rfl
noncomputable def C12 : Cfg U0 := (C10.add 11 m11).add 12 m11
theorem s12 : SumOK C12 := by
  refine (s10.add mixed (fn := Try.f11) (c := b11) rfl rfl rfl ?_).add mixed (fn := Try.f12) (c := b12) rfl rfl rfl ?_
  · intro xs cs r h hc
    unfold m11 at h
    split at h
    · rename_i n d
      cases h
      exact ⟨rfl, M0, 0, back (q := _) (by kernel_rfl) (tick_ok n d)⟩
    · cases h
  · intro xs cs r h hc
    unfold m11 at h
    split at h
    · rename_i n d
      cases h
      exact ⟨rfl, M0, 0, back (q := _) (by kernel_rfl) (tick_ok2 n d)⟩
    · cases h

def m13 : Model U0
  | [] => some ([], .bool true)
  | _ => none
noncomputable def C13 : Cfg U0 := C12.add 13 m13
theorem s13 : SumOK C13 := by
  refine s12.add mixed (fn := Try.f13) (c := b13) rfl rfl rfl ?_
  intro xs cs r h hc
  unfold m13 at h
  split at h
  · cases h
    exact ⟨rfl, M0, 0, back (q := AVal.bool (U := U0) true = .bool true) (by kernel_rfl) rfl⟩
  · cases h

/-! ### The laws -/
noncomputable def b3 : Code := (Try.f3.body).getD .skip
noncomputable def b4 : Code := (Try.f4.body).getD .skip
theorem x3 (a b c d : Int) : exec C13 106 M0 0 0 b3 (initSt [rt a b, rt c d]) (AEnds C13 Try.f3 fun r => r = .bool true) := by
  conv => whnf
  simp only [beq_self_eq_true, Bool.and_self]
end Go.Proofs.Ytbfcodlpbemkoaa
