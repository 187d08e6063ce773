/- Faces that cross: the plain law. Conditions: none. -/
import Derived.Test.YtckhagnnipibaaaRRRClash4
namespace Go.Proofs.YtckhagnnipibaaaRRR
open Go.Vm Go.RowKit
set_option linter.unusedVariables false

theorem un_iff {x : Int} : un x = true ↔ x = 1 ∨ x = -1 := by
  unfold un
  simp
/-- What it means to have an axis. -/
theorem ax_inv {x y z : Int} (h : 0 ≤ ax x y z) : (ax x y z = 0 ∧ (x = 1 ∨ x = -1) ∧ y = 0 ∧ z = 0) ∨ (ax x y z = 1 ∧ (y = 1 ∨ y = -1) ∧ x = 0 ∧ z = 0) ∨ (ax x y z = 2 ∧ (z = 1 ∨ z = -1) ∧ x = 0 ∧ y = 0) := by
  unfold ax at h ⊢
  cases h1 : (un x && (y == 0 && z == 0))
  · rw [h1] at h
    cases h2 : (un y && (x == 0 && z == 0))
    · rw [h2] at h
      cases h3 : (un z && (x == 0 && y == 0))
      · rw [h3] at h
        exact absurd h (by decide)
      · simp only [Bool.and_eq_true, un_iff, beq_iff_eq] at h3
        exact .inr (.inr ⟨rfl, h3.1, h3.2.1, h3.2.2⟩)
    · simp only [Bool.and_eq_true, un_iff, beq_iff_eq] at h2
      exact .inr (.inl ⟨rfl, h2.1, h2.2.1, h2.2.2⟩)
  · simp only [Bool.and_eq_true, un_iff, beq_iff_eq] at h1
    exact .inl ⟨rfl, h1.1, h1.2.1, h1.2.2⟩

theorem w64_id {n : Int} (h1 : -9223372036854775808 ≤ n) (h2 : n ≤ 9223372036854775807) : w64 n = n := wrapped h1 h2
theorem al_eq {o n x : Int} (ho : -8388608 ≤ o ∧ o ≤ 8388608) (hn : 0 ≤ n ∧ n ≤ 1048576) (hx : x = 1 ∨ x = -1 ∨ x = 0) : al o n x = o + n * x := by
  unfold al
  rcases hx with rfl | rfl | rfl
  · rw [w64_id (n := n * 1) (by omega) (by omega), w64_id (by omega) (by omega)]
  · rw [w64_id (n := n * -1) (by omega) (by omega), w64_id (by omega) (by omega)]
  · rw [w64_id (n := n * 0) (by omega) (by omega), w64_id (by omega) (by omega)]
theorem mn_mi (a b : Int) : mn a b = if a < b then a else b := by
  unfold mn
  rw [cond_eq_ite]
  simp
theorem mx_ma (a b : Int) : mx a b = if b < a then a else b := by
  unfold mx
  rw [cond_eq_ite]
  simp

/-- One axis of a face. -/
structure Side (f : Fc) (t : Nat) (flat : Bool) : Prop where
  lo : f.lo t = mi (f.ct 0 t) (f.ct 2 t)
  hi : f.hi t = ma (f.ct 0 t) (f.ct 2 t)
  eq : flat = true → f.ct 0 t = f.ct 2 t
  ne : flat = false → f.ct 0 t ≠ f.ct 2 t

theorem side_of {f : Fc} {t : Nat} (flat : Bool) (ho : -1048576 ≤ f.ot t ∧ f.ot t ≤ 1048576) (hw : 1 ≤ f.w ∧ f.w ≤ 1048576) (hh : 1 ≤ f.h ∧ f.h ≤ 1048576)
    (hu : (flat = true ∧ f.ut t = 0 ∧ f.vt t = 0) ∨ (flat = false ∧ (f.ut t = 1 ∨ f.ut t = -1) ∧ f.vt t = 0) ∨ (flat = false ∧ f.ut t = 0 ∧ (f.vt t = 1 ∨ f.vt t = -1))) : Side f t flat := by
  have hu' : f.ut t = 1 ∨ f.ut t = -1 ∨ f.ut t = 0 := by
    rcases hu with ⟨_, h, _⟩ | ⟨_, h, _⟩ | ⟨_, h, _⟩
    · exact .inr (.inr h)
    · rcases h with h | h
      · exact .inl h
      · exact .inr (.inl h)
    · exact .inr (.inr h)
  have hv' : f.vt t = 1 ∨ f.vt t = -1 ∨ f.vt t = 0 := by
    rcases hu with ⟨_, _, h⟩ | ⟨_, _, h⟩ | ⟨_, _, h⟩
    · exact .inr (.inr h)
    · exact .inr (.inr h)
    · rcases h with h | h
      · exact .inl h
      · exact .inr (.inl h)
  have e1 : f.ct 1 t = f.ot t + f.w * f.ut t := al_eq (by omega) (by omega) hu'
  have hb : -2097152 ≤ f.ot t + f.w * f.ut t ∧ f.ot t + f.w * f.ut t ≤ 2097152 := by
    rcases hu' with h | h | h <;> rw [h] <;> omega
  have e2 : f.ct 2 t = f.ot t + f.w * f.ut t + f.h * f.vt t := by
    show al (al (f.ot t) f.w (f.ut t)) f.h (f.vt t) = _
    have e1' : al (f.ot t) f.w (f.ut t) = f.ot t + f.w * f.ut t := e1
    rw [e1']
    exact al_eq (by omega) (by omega) hv'
  have e3 : f.ct 3 t = f.ot t + f.h * f.vt t := al_eq (by omega) (by omega) hv'
  have e0 : f.ct 0 t = f.ot t := rfl
  have hlo : f.lo t = mn (f.ct 3 t) (mn (f.ct 2 t) (mn (f.ct 1 t) (f.ct 0 t))) := rfl
  have hhi : f.hi t = mx (f.ct 3 t) (mx (f.ct 2 t) (mx (f.ct 1 t) (f.ct 0 t))) := rfl
  rw [e0, e1, e2, e3] at hlo hhi
  rw [mn_mi, mn_mi, mn_mi] at hlo
  rw [mx_ma, mx_ma, mx_ma] at hhi
  refine ⟨?_, ?_, ?_, ?_⟩
  · rw [hlo, e0, e2]
    unfold mi
    rcases hu with ⟨_, hu, hv⟩ | ⟨_, hu | hu, hv⟩ | ⟨_, hu, hv | hv⟩ <;> rw [hu, hv] <;> (repeat' split) <;> omega
  · rw [hhi, e0, e2]
    unfold ma
    rcases hu with ⟨_, hu, hv⟩ | ⟨_, hu | hu, hv⟩ | ⟨_, hu, hv | hv⟩ <;> rw [hu, hv] <;> (repeat' split) <;> omega
  · intro hf
    rw [e0, e2]
    rcases hu with ⟨_, hu, hv⟩ | ⟨h, _⟩ | ⟨h, _⟩
    · rw [hu, hv]
      omega
    · rw [h] at hf
      cases hf
    · rw [h] at hf
      cases hf
  · intro hf
    rw [e0, e2]
    rcases hu with ⟨h, _⟩ | ⟨_, hu | hu, hv⟩ | ⟨_, hu, hv | hv⟩
    · rw [h] at hf
      cases hf
    all_goals rw [hu, hv]
    all_goals omega

theorem inM_iff {n : Int} : inM n = true ↔ -1048576 ≤ n ∧ n ≤ 1048576 := by
  unfold inM
  simp
theorem pl_inv {f : Fc} (h : f.pl = true) : 0 ≤ f.ua ∧ 0 ≤ f.va ∧ f.ua ≠ f.va ∧ (1 ≤ f.w ∧ f.w ≤ 1048576) ∧ (1 ≤ f.h ∧ f.h ≤ 1048576) ∧ (-1048576 ≤ f.o0 ∧ f.o0 ≤ 1048576) ∧ (-1048576 ≤ f.o1 ∧ f.o1 ≤ 1048576) ∧ (-1048576 ≤ f.o2 ∧ f.o2 ≤ 1048576) := by
  rw [← f.so_pl] at h
  unfold Fc.so at h
  simp only [Bool.and_eq_true, decide_eq_true_eq, bne_iff_ne, inM_iff] at h
  obtain ⟨⟨⟨⟨⟨⟨⟨h1, h2⟩, h3⟩, h4⟩, h5⟩, h6⟩, h7⟩, h8⟩ := h
  exact ⟨h1, h2, h3, h4, h5, h6, h7, h8⟩
/-- What the walks ask of a face that Clash examines. -/
theorem plain_facts {f : Fc} (h : f.pl = true) : f.na = f.fl ∧ (f.fl = 0 ∨ f.fl = 1 ∨ f.fl = 2) ∧ Side f 0 (f.fl == 0) ∧ Side f 1 (f.fl == 1) ∧ Side f 2 (f.fl == 2) := by
  obtain ⟨hu, hv, hne, hw, hh, h0, h1, h2⟩ := pl_inv h
  unfold Fc.fl Fc.na
  unfold Fc.ua at hu hne ⊢
  unfold Fc.va at hv hne ⊢
  rcases ax_inv hu with ⟨eu, u1, u2, u3⟩ | ⟨eu, u1, u2, u3⟩ | ⟨eu, u1, u2, u3⟩ <;> rcases ax_inv hv with ⟨ev, v1, v2, v3⟩ | ⟨ev, v1, v2, v3⟩ | ⟨ev, v1, v2, v3⟩
  all_goals rw [eu, ev] at hne ⊢
  all_goals first
    | exact absurd rfl hne
    | skip
  all_goals refine ⟨?_, by decide, ?_, ?_, ?_⟩
  all_goals first
    | (rcases u1 with u1 | u1 <;> rcases v1 with v1 | v1 <;> rw [u1, u2, u3, v1, v2, v3] <;> decide)
    | (refine side_of _ h0 hw hh ?_ ; simp [Fc.ut, Fc.vt, u1, u2, v1, v2, w64, IntKind.wrap_i64] ; done)
    | (refine side_of _ h1 hw hh ?_ ; simp [Fc.ut, Fc.vt, u1, u2, u3, v1, v2, v3, w64, IntKind.wrap_i64] ; done)
    | (refine side_of _ h2 hw hh ?_ ; simp [Fc.ut, Fc.vt, u1, u3, v1, v3, w64, IntKind.wrap_i64] ; done)
    | skip

theorem off_same {a b : Fc} {p q : Int} {t : Nat} (hpq : p ≠ q) (ha : Side a t (p == t)) (hb : Side b t (q == t)) : offP a b p q t = (off1 a b t || off2 a b t) := by
  obtain ⟨a1, a2, a3, a4⟩ := ha
  obtain ⟨b1, b2, b3, b4⟩ := hb
  unfold off1 off2 offP
  rw [a1, a2, b1, b2, Bool.eq_iff_iff]
  have e1 : ((t : Int) == p) = (p == t) := Bool.beq_comm
  have e2 : ((t : Int) == q) = (q == t) := Bool.beq_comm
  rw [e1, e2]
  generalize a.ct 0 t = x at *
  generalize a.ct 2 t = y at *
  generalize b.ct 0 t = z at *
  generalize b.ct 2 t = w at *
  unfold mi ma
  cases hp : (p == t)
  · have hxy := a4 hp
    cases hq : (q == t)
    · have hzw := b4 hq
      simp
      (repeat' split) <;> omega
    · have hzw := b3 hq
      simp
      (repeat' split) <;> omega
  · have hxy := a3 hp
    have hq : (q == t) = false := by
      have h1 : p = t := by simpa using hp
      simp only [beq_eq_false_iff_ne]
      omega
    have hzw := b4 hq
    simp
    (repeat' split) <;> omega

theorem cl_same (a b : Fc) : clP a b = clR a b := by
  unfold clP clR
  cases ha : a.pl
  · rfl
  · cases hb : b.pl
    · rfl
    · obtain ⟨n1, _, s0, s1, s2⟩ := plain_facts ha
      obtain ⟨n2, _, t0, t1, t2⟩ := plain_facts hb
      rw [n1, n2]
      cases hq : (a.fl == b.fl)
      · have hne : a.fl ≠ b.fl := by simpa using hq
        unfold pcB rcB
        rw [off_same hne s0 t0, off_same hne s1 t1, off_same hne s2 t2]
        rfl
      · rfl
theorem off_comm (a b : Fc) (p q : Int) (t : Nat) (hpq : p ≠ q) : offP a b p q t = offP b a q p t := by
  unfold offP
  cases h1 : ((t : Int) == p)
  · cases h2 : ((t : Int) == q)
    · show decide _ = decide _
      refine decide_eq_decide.2 ?_
      unfold mi ma
      (repeat' split) <;> omega
    · rfl
  · have h2 : ((t : Int) == q) = false := by
      have : (t : Int) = p := by simpa using h1
      simp only [beq_eq_false_iff_ne]
      omega
    rw [h2]
    rfl
theorem cl_comm (a b : Fc) : clP a b = clP b a := by
  unfold clP
  cases ha : a.pl
  · cases hb : b.pl <;> rfl
  · cases hb : b.pl
    · rfl
    · cases hq : (a.fl == b.fl)
      · have hne : a.fl ≠ b.fl := by simpa using hq
        have hq' : (b.fl == a.fl) = false := by
          simp only [beq_eq_false_iff_ne]
          exact fun e => hne e.symm
        unfold pcB
        rw [hq', off_comm a b _ _ 0 hne, off_comm a b _ _ 1 hne, off_comm a b _ _ 2 hne]
      · have hq' : (b.fl == a.fl) = true := by
          have : a.fl = b.fl := by simpa using hq
          simp [this]
        rw [hq']
        rfl
theorem cl_self (a : Fc) : clP a a = false := by
  unfold clP
  rw [beq_self_eq_true]
  cases a.pl <;> rfl
end Go.Proofs.YtckhagnnipibaaaRRR
