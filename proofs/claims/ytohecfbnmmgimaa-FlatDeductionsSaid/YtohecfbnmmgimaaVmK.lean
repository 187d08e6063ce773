/-
  The abstract operations are right: indexes and slices of slices. Conditions: none.
-/
import Derived.Test.YtohecfbnmmgimaaVmJ
namespace Go.Vm
open Go.RowKit
set_option linter.unusedVariables false

section
variable {U : Univ} {n : Nat} {N : Nat → Prop} {w0 w w' : World} {ρ ρ' : Nat → Option (Nat × Value)} {s : ASt U} {a : Act}

theorem sizeEq {P : Program} {e m : Nat} (h : (match sizeT P e with | some n => Nat.beq n m | none => false) = true) : ∃ i, P.info? e = some i ∧ i.size = m := by
  split at h
  · rename_i n hn
    obtain ⟨i, hi, his⟩ := sizeT_spec hn
    exact ⟨i, hi, by rw [his]; exact Nat.eq_of_beq_eq_true h⟩
  · cases h

theorem toNat_lt {i : Int} {n : Nat} (h : 0 ≤ i ∧ i < n) : i.toNat < n := by omega

theorem indexAddr_sound {C : Cfg U} (h : RR C.E n N w0 ρ s a w) {look : Nat → Option (AObj U)} (hlook : ∀ id ob, look id = some ob → s.objs id = some ob) {t : TypeId}
    {x : AVal U} {v : Value} (hx : Rel C.E w ρ (Stab N ρ w) x v) {k : IntKind} {i : Int} {cs : List Prop} {r : AVal U} {ob : Option (Nat × AObj U)}
    (ho : indexAddrOf C look t x i = some (cs, r, ob)) (hc : conj cs) : ob = none ∧ ∃ q, (Instr.indexAt t v (.int k i)).run C.P w = .ok q w ∧ Rel C.E w ρ (Stab N ρ w) r q := by
  unfold indexAddrOf at ho
  split at ho
  · rename_i e hu
    split at ho
    · rename_i τ xs
      have hbb := cond_some ho
      clear ho
      obtain ⟨hb, ho⟩ := hbb
      simp only [Option.some.injEq, Prod.mk.injEq] at ho
      obtain ⟨rfl, rfl, rfl⟩ := ho
      obtain ⟨ti, hti, hts⟩ := sizeEq hb
      have hi : 0 ≤ i ∧ i < xs.length := hc
      have hi' := toNat_lt hi
      refine ⟨rfl, ?_⟩
      cases hx with
      | sl0 _ => simp at hi'
      | sl _ _ b o cap f hst hcap hcc hl =>
        refine ⟨.pointer (some ⟨b, o + i.toNat * U.size τ, none⟩), ?_, ?_⟩
        · simp [Instr.indexAt, asIntOf, run_underlying hu, hi, sizeOf, typeInfo, hti, hts, addr_add]
        · have hxi : xs.getD i.toNat (C.E.dflt τ) = xs[i.toNat] := by simp [hi']
          rw [hxi]
          have := Rel.ref (E := C.E) (w := w) (ρ := ρ) (st := Stab N ρ w) (C.E.enc τ xs[i.toNat]) 0 b (o + i.toNat * U.size τ) (fun k => f (i.toNat * U.size τ + k)) hst (fun k hk => by
            have hk' : k < U.size τ := by rw [C.E.enc_len] at hk; exact hk
            have h4 : (i.toNat + 1) * U.size τ ≤ xs.length * U.size τ := Nat.mul_le_mul_right _ hi'
            rw [Nat.add_mul, Nat.one_mul] at h4
            rw [Nat.add_assoc]
            exact hcc _ (by omega)) (fun k hk => hl _ hi' k hk)
          simpa using this
    · rename_i id g
      split at ho
      · rename_i τ g' xs hl
        have hbb := cond_some ho
        clear ho
        obtain ⟨hb, ho⟩ := hbb
        simp only [Option.some.injEq, Prod.mk.injEq] at ho
        obtain ⟨rfl, rfl, rfl⟩ := ho
        simp only [Bool.and_eq_true] at hb
        obtain rfl := Nat.eq_of_beq_eq_true hb.1
        obtain ⟨ti, hti, hts⟩ := sizeEq hb.2
        have hi : 0 ≤ i ∧ i < xs.length := hc
        have hi' := toNat_lt hi
        refine ⟨rfl, ?_⟩
        obtain ⟨u, cs', h1, hp, h2, h3⟩ := h.objs _ _ (hlook _ _ hl)
        cases hx with
        | osl _ _ u' hr' hp' =>
          rw [h1] at hr'
          simp only [Option.some.injEq, Prod.mk.injEq, true_and] at hr'
          subst hr'
          rcases h2.2 with ⟨h0, hn0⟩ | ⟨gb, cap, cur, rfl, hbase, hgb, hn, hcm, hcs, htake⟩
          · omega
          · refine ⟨.pointer (some ⟨gb, i.toNat * U.size τ, none⟩), ?_, ?_⟩
            · simp [Instr.indexAt, asIntOf, run_underlying hu, hi, sizeOf, typeInfo, hti, hts, addr_add]
            · exact .eptr id g i.toNat 0 (U.size τ) gb xs.length cap h1 hi'
        | oslOld _ _ g' u' v hr' hg =>
          rw [h1] at hr'
          simp only [Option.some.injEq, Prod.mk.injEq] at hr'
          omega
      · cases ho
    · simp only [Option.some.injEq, Prod.mk.injEq] at ho
      obtain ⟨rfl, rfl, rfl⟩ := ho
      exact (show False from hc).elim
    · cases ho
  · rename_i len e hu
    split at ho
    · rename_i m hm
      obtain ⟨ti, hti, rfl⟩ := sizeT_spec hm
      split at ho
      · simp only [Option.some.injEq, Prod.mk.injEq] at ho
        obtain ⟨rfl, rfl, rfl⟩ := ho
        have hi : 0 ≤ i ∧ i < len := hc
        refine ⟨rfl, ?_⟩
        cases hx with
        | ptr _ _ b hb =>
          refine ⟨_, ?_, .ptr _ _ b hb⟩
          simp [Instr.indexAt, asIntOf, run_underlying hu, hi, sizeOf, typeInfo, hti, Instr.sureAddr, addr_add]
      · simp only [Option.some.injEq, Prod.mk.injEq] at ho
        obtain ⟨rfl, rfl, rfl⟩ := ho
        have hi : 0 ≤ i ∧ i < len := hc
        refine ⟨rfl, ?_⟩
        cases hx with
        | ref _ _ b o f hst hcc hl =>
          refine ⟨_, ?_, .ref _ _ b o f hst hcc hl⟩
          simp [Instr.indexAt, asIntOf, run_underlying hu, hi, sizeOf, typeInfo, hti, Instr.sureAddr, addr_add, Nat.add_assoc]
      · cases ho
    · cases ho
  · cases ho

theorem index_sound {C : Cfg U} {t : TypeId} {st : Nat → Prop}
    {x : AVal U} {v : Value} (hx : Rel C.E w ρ st x v) {k : IntKind} {i : Int} {cs : List Prop} {r : AVal U} {ob : Option (Nat × AObj U)}
    (ho : indexOf C t x i = some (cs, r, ob)) (hc : conj cs) : ob = none ∧ ∃ q, (Instr.index t v (.int k i)).run C.P w = .ok q w ∧ Rel C.E w ρ st r q := by
  unfold indexOf at ho
  split at ho
  · rename_i b hu
    simp only [Option.some.injEq, Prod.mk.injEq] at ho
    obtain ⟨rfl, rfl, rfl⟩ := ho
    have hi : 0 ≤ i ∧ i < b.size := hc
    have hi' := toNat_lt hi
    refine ⟨rfl, ?_⟩
    cases hx
    refine ⟨_, ?_, .int _ _⟩
    have e : b[i.toNat]? = some (b.data.toList.getD i.toNat 0) := by
      have h3 : b.data.toList.getD i.toNat 0 = b[i.toNat] := by
        have h4 : i.toNat < b.data.size := hi'
        have h5 : b.data[i.toNat]? = some b.data[i.toNat] := Array.getElem?_eq_getElem h4
        simp [h5]
        rfl
      rw [h3]
      exact getElem?_pos b i.toNat hi'
    simp only [Instr.index, asIntOf, Sem.run_bind, Sem.run_pure, Result.andThen_ok, run_underlying hu, if_pos hi.1, e]
  · rename_i len e l hu
    split at ho
    · rename_i m hm
      obtain ⟨ti, hti, rfl⟩ := sizeT_spec hm
      split at ho
      · rename_i y hy
        simp only [Option.some.injEq, Prod.mk.injEq] at ho
        obtain ⟨rfl, rfl, rfl⟩ := ho
        have hi : 0 ≤ i ∧ i < len := hc
        refine ⟨rfl, ?_⟩
        cases hx with
        | agg _ vs hn hl =>
          obtain ⟨q, hq, hr⟩ := part_sound (w := w) hy hn hl
          refine ⟨q, ?_, hr⟩
          simp only [Instr.index, asIntOf, Sem.run_bind, Sem.run_pure, Result.andThen_ok, run_underlying hu, if_pos hi, sizeOf, typeInfo, run_program, hti, hq]
      · cases ho
    · cases ho
  · cases ho

theorem sl_part {E : Enc U} {st : Nat → Prop} {τ : U.τ} {xs : List (U.T τ)} {b o cap l m c : Nat} {f : Nat → Value} (hst : st b) (hcap : m ≤ c) (hlm : l + m ≤ xs.length)
    (hc : ∀ k, k < xs.length * U.size τ → w.cell? ⟨b, o + k, none⟩ = some (f k)) (hl : ∀ i (h : i < xs.length) k (hk : k < (E.enc τ xs[i]).length), Rel E w ρ st (E.enc τ xs[i])[k] (f (i * U.size τ + k))) (a' : Addr)
    (ha : a' = ⟨b, o + l * U.size τ, none⟩ ∨ (m = 0 ∧ a' = ⟨b, o, none⟩)) :
    Rel E w ρ st (.sl τ ((xs.drop l).take m)) (.slice (some a') m c) := by
  have hlen : ((xs.drop l).take m).length = m := by simp; omega
  rcases ha with rfl | ⟨rfl, rfl⟩
  · have := Rel.sl (E := E) (w := w) (ρ := ρ) (st := st) τ ((xs.drop l).take m) b (o + l * U.size τ) c (fun k => f (l * U.size τ + k)) hst (by rw [hlen]; exact hcap) (fun k hk => by
      rw [hlen] at hk
      have h4 : (l + m) * U.size τ ≤ xs.length * U.size τ := Nat.mul_le_mul_right _ hlm
      rw [Nat.add_mul] at h4
      rw [Nat.add_assoc]
      exact hc _ (by omega)) (fun i hi k hk => by
      rw [hlen] at hi
      have e : ((xs.drop l).take m)[i]'(by rw [hlen]; exact hi) = xs[l + i]'(by omega) := by simp
      have hk2 : k < (E.enc τ (xs[l + i]'(by omega))).length := by rw [e] at hk; exact hk
      have := hl (l + i) (by omega) k hk2
      have e2 : (l + i) * U.size τ + k = l * U.size τ + (i * U.size τ + k) := by rw [Nat.add_mul]; omega
      rw [e2] at this
      simp only [e]
      exact this)
    rw [hlen] at this
    exact this
  · have h0 : (xs.drop l).take 0 = [] := rfl
    rw [h0]
    exact Rel.sl (E := E) (w := w) (ρ := ρ) (st := st) τ [] b o c f hst (by simp) (fun k hk => absurd hk (by simp)) (fun i hi => absurd hi (by simp))

theorem sliceAt_eq {P : Program} {t : TypeId} {d : TypeDesc} (hu : P.underlying t = some d) (hd : ∀ n e, d ≠ .array n e) (v : Value) (lo hi : Option Value) : (Instr.sliceAt t v lo hi none).run P w = (Instr.slice t v lo hi none).run P w := by
  simp only [Instr.sliceAt, Sem.run_bind, run_underlying hu, Result.andThen_ok]

theorem bound_ok {P : Program} {k : IntKind} {i : Int} {y : Nat} {code : BoundsCode} (h : 0 ≤ i ∧ i ≤ y) : (Instr.sliceBound (.int k i) y code).run P w = .ok i.toNat w := by
  simp [Instr.sliceBound, asIntOf, h]

theorem slice_sound {C : Cfg U} {st : Nat → Prop} {t : TypeId} {x : AVal U} {v : Value} (hx : Rel C.E w ρ st x v) {lo hi : Option (AVal U)} {lo' hi' : Option Value}
    (hlo : ∀ y, lo = some y → ∃ v, lo' = some v ∧ Rel C.E w ρ st y v) (hlo0 : lo = none → lo' = none)
    (hhi : ∀ y, hi = some y → ∃ v, hi' = some v ∧ Rel C.E w ρ st y v) (hhi0 : hi = none → hi' = none)
    {cs : List Prop} {r : AVal U} {ob : Option (Nat × AObj U)} (ho : sliceOf C t x lo hi = some (cs, r, ob)) (hc : conj cs) :
    ob = none ∧ ∃ q, (Instr.sliceAt t v lo' hi' none).run C.P w = .ok q w ∧ Rel C.E w ρ st r q := by
  unfold sliceOf at ho
  split at ho
  · rename_i b hu
    rw [sliceAt_eq hu (fun _ _ e => by cases e)]
    cases hx
    split at ho
    · rename_i kl l kh h
      simp only [Option.some.injEq, Prod.mk.injEq] at ho
      obtain ⟨rfl, rfl, rfl⟩ := ho
      obtain ⟨_, rfl, hv1⟩ := hlo _ rfl
      obtain ⟨_, rfl, hv2⟩ := hhi _ rfl
      cases hv1
      cases hv2
      have h0 : 0 ≤ l ∧ l ≤ h ∧ h ≤ b.size := hc
      refine ⟨rfl, _, ?_, .str _⟩
      have hb1 := bound_ok (P := C.P) (w := w) (k := kh) (code := .sliceAlen) (show 0 ≤ h ∧ h ≤ b.size by omega)
      have hb2 := bound_ok (P := C.P) (w := w) (k := kl) (code := .sliceB) (show 0 ≤ l ∧ l ≤ h.toNat by omega)
      simp [Instr.slice, Instr.sliceBounds, run_underlying hu, hb1, hb2]
    · rename_i kl l
      simp only [Option.some.injEq, Prod.mk.injEq] at ho
      obtain ⟨rfl, rfl, rfl⟩ := ho
      obtain ⟨_, rfl, hv1⟩ := hlo _ rfl
      obtain rfl := hhi0 rfl
      cases hv1
      have h0 : 0 ≤ l ∧ l ≤ b.size := hc
      refine ⟨rfl, _, ?_, .str _⟩
      have hb2 := bound_ok (P := C.P) (w := w) (k := kl) (code := .sliceB) (show 0 ≤ l ∧ l ≤ b.size by omega)
      simp [Instr.slice, Instr.sliceBounds, run_underlying hu, hb2]
    · rename_i kh h
      simp only [Option.some.injEq, Prod.mk.injEq] at ho
      obtain ⟨rfl, rfl, rfl⟩ := ho
      obtain ⟨_, rfl, hv2⟩ := hhi _ rfl
      obtain rfl := hlo0 rfl
      cases hv2
      have h0 : 0 ≤ h ∧ h ≤ b.size := hc
      refine ⟨rfl, _, ?_, .str _⟩
      have hb1 := bound_ok (P := C.P) (w := w) (k := kh) (code := .sliceAlen) (show 0 ≤ h ∧ h ≤ b.size by omega)
      simp [Instr.slice, Instr.sliceBounds, run_underlying hu, hb1]
    · simp only [Option.some.injEq, Prod.mk.injEq] at ho
      obtain ⟨rfl, rfl, rfl⟩ := ho
      obtain rfl := hlo0 rfl
      obtain rfl := hhi0 rfl
      refine ⟨rfl, _, ?_, .str _⟩
      simp [Instr.slice, Instr.sliceBounds, run_underlying hu]
    · cases ho
  · rename_i e τ xs hu
    have hbb := cond_some ho
    clear ho
    obtain ⟨hb, ho⟩ := hbb
    obtain ⟨ti, hti, hts⟩ := sizeEq hb
    rw [sliceAt_eq hu (fun _ _ e => by cases e)]
    -- the slice's value
    have hv : ∃ (ad : Option Addr) (cap : Nat), v = .slice ad xs.length cap ∧ xs.length ≤ cap ∧ ∀ (l m c : Nat), m ≤ c → l + m ≤ xs.length → (m = 0 ∨ c ≠ 0) →
        ∀ ad', (ad' = ad.map (·.add (l * U.size τ)) ∨ (m = 0 ∧ ad' = ad)) → (ad = none → c = 0) → Rel C.E w ρ st (.sl τ ((xs.drop l).take m)) (.slice ad' m c) := by
      cases hx with
      | sl0 _ =>
        refine ⟨none, 0, rfl, by simp, fun l m c hmc hlm _ ad' had hc0 => ?_⟩
        have hm : m = 0 := by simp at hlm; omega
        subst hm
        obtain rfl := hc0 rfl
        have : ad' = none := by
          rcases had with h | ⟨_, h⟩ <;> simpa using h
        subst this
        exact .sl0 τ
      | sl _ _ b o cap f hst hcap hcc hl =>
        refine ⟨some ⟨b, o, none⟩, cap, rfl, hcap, fun l m c hmc hlm _ ad' had _ => ?_⟩
        rcases had with rfl | ⟨rfl, rfl⟩
        · simp only [Option.map_some, addr_add]
          exact sl_part (cap := cap) hst hmc hlm hcc hl _ (.inl rfl)
        · exact sl_part (cap := cap) hst hmc hlm hcc hl _ (.inr ⟨rfl, rfl⟩)
    obtain ⟨ad, cap, rfl, hcap, hpart⟩ := hv
    have had0 : ad = none → cap = 0 := fun e => by
      subst e
      cases hx
      rfl
    split at ho
    · rename_i kl l kh h
      simp only [Option.some.injEq, Prod.mk.injEq] at ho
      obtain ⟨rfl, rfl, rfl⟩ := ho
      obtain ⟨_, rfl, hv1⟩ := hlo _ rfl
      obtain ⟨_, rfl, hv2⟩ := hhi _ rfl
      cases hv1
      cases hv2
      have h0 : 0 ≤ l ∧ l ≤ h ∧ h ≤ xs.length := hc
      have hb1 := bound_ok (P := C.P) (w := w) (k := kh) (code := .sliceAcap) (show 0 ≤ h ∧ h ≤ cap by omega)
      have hb2 := bound_ok (P := C.P) (w := w) (k := kl) (code := .sliceB) (show 0 ≤ l ∧ l ≤ h.toNat by omega)
      refine ⟨rfl, .slice (if cap = l.toNat then ad else ad.map (·.add (l.toNat * U.size τ))) (h.toNat - l.toNat) (cap - l.toNat), ?_, ?_⟩
      · simp [Instr.slice, Instr.sliceBounds, run_underlying hu, hb1, hb2, sizeOf, typeInfo, hti, hts]
      · refine hpart l.toNat (h.toNat - l.toNat) (cap - l.toNat) (by omega) (by omega) (by omega) _ ?_ (fun e => by have := had0 e; omega)
        by_cases hcl : cap = l.toNat
        · rw [if_pos hcl]
          exact .inr ⟨by omega, rfl⟩
        · rw [if_neg hcl]
          exact .inl rfl
    · rename_i kl l
      simp only [Option.some.injEq, Prod.mk.injEq] at ho
      obtain ⟨rfl, rfl, rfl⟩ := ho
      obtain ⟨_, rfl, hv1⟩ := hlo _ rfl
      obtain rfl := hhi0 rfl
      cases hv1
      have h0 : 0 ≤ l ∧ l ≤ xs.length := hc
      have hb2 := bound_ok (P := C.P) (w := w) (k := kl) (code := .sliceB) (show 0 ≤ l ∧ l ≤ xs.length by omega)
      refine ⟨rfl, .slice (if cap = l.toNat then ad else ad.map (·.add (l.toNat * U.size τ))) (xs.length - l.toNat) (cap - l.toNat), ?_, ?_⟩
      · simp [Instr.slice, Instr.sliceBounds, run_underlying hu, hb2, sizeOf, typeInfo, hti, hts]
      · have := hpart l.toNat (xs.length - l.toNat) (cap - l.toNat) (by omega) (by omega) (by omega) (if cap = l.toNat then ad else ad.map (·.add (l.toNat * U.size τ))) (by
          by_cases hcl : cap = l.toNat
          · rw [if_pos hcl]
            exact .inr ⟨by omega, rfl⟩
          · rw [if_neg hcl]
            exact .inl rfl) (fun e => by have := had0 e; omega)
        have e : (xs.drop l.toNat).take (xs.length - l.toNat) = xs.drop l.toNat := List.take_of_length_le (by simp)
        rw [e] at this
        exact this
    · rename_i kh h
      simp only [Option.some.injEq, Prod.mk.injEq] at ho
      obtain ⟨rfl, rfl, rfl⟩ := ho
      obtain ⟨_, rfl, hv2⟩ := hhi _ rfl
      obtain rfl := hlo0 rfl
      cases hv2
      have h0 : 0 ≤ h ∧ h ≤ xs.length := hc
      have hb1 := bound_ok (P := C.P) (w := w) (k := kh) (code := .sliceAcap) (show 0 ≤ h ∧ h ≤ cap by omega)
      refine ⟨rfl, .slice (if cap = 0 then ad else ad.map (·.add (0 * U.size τ))) h.toNat cap, ?_, ?_⟩
      · simp [Instr.slice, Instr.sliceBounds, run_underlying hu, hb1, sizeOf, typeInfo, hti]
      · have := hpart 0 h.toNat cap (by omega) (by omega) (by omega) (if cap = 0 then ad else ad.map (·.add (0 * U.size τ))) (by
          by_cases hcl : cap = 0
          · rw [if_pos hcl]
            exact .inr ⟨by omega, rfl⟩
          · rw [if_neg hcl]
            exact .inl rfl) had0
        simpa using this
    · simp only [Option.some.injEq, Prod.mk.injEq] at ho
      obtain ⟨rfl, rfl, rfl⟩ := ho
      obtain rfl := hlo0 rfl
      obtain rfl := hhi0 rfl
      refine ⟨rfl, .slice (if cap = 0 then ad else ad.map (·.add (0 * U.size τ))) xs.length cap, ?_, ?_⟩
      · simp [Instr.slice, Instr.sliceBounds, run_underlying hu, sizeOf, typeInfo, hti]
      · have := hpart 0 xs.length cap hcap (by omega) (by omega) (if cap = 0 then ad else ad.map (·.add (0 * U.size τ))) (by
          by_cases hcl : cap = 0
          · rw [if_pos hcl]
            exact .inr ⟨by omega, rfl⟩
          · rw [if_neg hcl]
            exact .inl rfl) had0
        simpa using this
    · cases ho
  · cases ho
end
end Go.Vm
