/-
  The abstract operations are right: append, slices written out. Conditions: none; lemmas over any program.
-/
import Derived.Test.YtohecfbnmmgimaaVmF
namespace Go.Vm
open Go.RowKit
set_option linter.unusedVariables false

section
variable {U : Univ} {n : Nat} {N : Nat → Prop} {w0 w w' : World} {ρ ρ' : Nat → Option (Nat × Value)} {s : ASt U} {a : Act}

theorem sliceElt_spec {C : Cfg U} {t : TypeId} {τ : U.τ} (h : sliceElt C t = some τ) :
    C.P.underlying t = some (.slice (U.ety τ)) ∧ ∃ i, C.P.info? (U.ety τ) = some i ∧ i.size = U.size τ := by
  unfold sliceElt at h
  split at h
  · rename_i e he
    split at h
    · rename_i m τ' hm hτ
      have hc : (Nat.beq m (U.size τ') && Nat.beq e (U.ety τ')) = true := by
        cases hc : (Nat.beq m (U.size τ') && Nat.beq e (U.ety τ')) <;> rw [hc] at h <;> simp_all
      rw [hc] at h
      simp only [cond_true, Option.some.injEq] at h
      subst h
      simp only [Bool.and_eq_true] at hc
      obtain rfl := Nat.eq_of_beq_eq_true hc.1
      obtain rfl := Nat.eq_of_beq_eq_true hc.2
      exact ⟨he, sizeT_spec hm⟩
    · cases h
  · cases h

theorem castRow_spec {t t2 : U.τ} {xs : List (U.T t2)} {ys : List (U.T t)} (h : castRow t t2 xs = some ys) : ∃ e : t2 = t, e ▸ xs = ys := by
  unfold castRow at h
  split at h
  · rename_i e _
    exact ⟨e, Option.some.inj h⟩
  · cases h

/-- What a slice's elements are in memory. -/
def Elems (E : Enc U) (w : World) (ρ : Nat → Option (Nat × Value)) (st : Nat → Prop) (t : U.τ) (xs : List (U.T t)) (v : Value) : Prop :=
  (v = .slice none 0 0 ∧ xs = []) ∨ ∃ (b o cap : Nat) (f : Nat → Value), v = .slice (some ⟨b, o, none⟩) xs.length cap ∧ xs.length ≤ cap ∧
    (∀ j, j < xs.length * U.size t → w.cell? ⟨b, o + j, none⟩ = some (f j)) ∧
    ∀ i (h : i < xs.length) k (hk : k < (E.enc t xs[i]).length), Rel E w ρ st (E.enc t xs[i])[k] (f (i * U.size t + k))

theorem RR.rowElems {E : Enc U} (h : RR E n N w0 ρ s a w) {id : Nat} {t : U.τ} {g : Nat} {xs : List (U.T t)} (ho : s.objs id = some (.row t g xs)) :
    ∃ u cs, ρ id = some (g, u) ∧ (∀ a, u ≠ .pointer a) ∧ w.ownsRow w0.heap.size (U.ety t) (U.size t) u xs.length cs ∧ Elems E w ρ (Stab N ρ w) t xs u ∧
      ∀ i (h : i < xs.length) k (hk : k < (E.enc t xs[i]).length), Rel E w ρ (Stab N ρ w) (E.enc t xs[i])[k] (cs.getD (i * U.size t + k) undef) := by
  obtain ⟨u, cs, h1, hp, h2, h3⟩ := h.objs _ _ ho
  refine ⟨u, cs, h1, hp, h2, ?_, h3⟩
  rcases h2.2 with ⟨h0, hn⟩ | ⟨gb, cap, cur, heq, hbase, hgb, hn, hcm, hcs, htake⟩
  · exact .inl ⟨h0, List.eq_nil_of_length_eq_zero hn⟩
  · refine .inr ⟨gb, 0, cap, fun j => cs.getD j undef, heq, hn, fun j hj => ?_, h3⟩
    rw [Nat.zero_add, cell_of_row w gb j cur _ (0, 0) hgb]
    have h6 : cs[j]? = cur[j]? := by
      rw [← htake, List.getElem?_take, if_pos hj]
      simp
    have : j < cs.length := by rw [h2.1]; exact hj
    rw [← h6]
    simp [this]

theorem rowOf_sound {E : Enc U} (h : RR E n N w0 ρ s a w) {look : Nat → Option (AObj U)} (hlook : ∀ id ob, look id = some ob → s.objs id = some ob) {t : U.τ}
    {x : AVal U} {v : Value} (hx : Rel E w ρ (Stab N ρ w) x v) {ys : List (U.T t)} (hr : rowOf look t x = some ys) : Elems E w ρ (Stab N ρ w) t ys v := by
  unfold rowOf at hr
  split at hr
  · split at hr
    · rename_i id g _ t2 g' zs hl
      have hc : Nat.beq g g' = true := by cases hc : Nat.beq g g' <;> rw [hc] at hr <;> simp_all
      rw [hc] at hr
      simp only [cond_true] at hr
      obtain rfl := Nat.eq_of_beq_eq_true hc
      obtain ⟨rfl, rfl⟩ := castRow_spec hr
      obtain ⟨u, cs, h1, hp, h2, h3, _⟩ := h.rowElems (hlook _ _ hl)
      cases hx with
      | osl _ _ u' hr' hp' =>
        rw [h1] at hr'
        simp only [Option.some.injEq, Prod.mk.injEq, true_and] at hr'
        subst hr'
        exact h3
      | oslOld _ _ g' u' v hr' hg =>
        rw [h1] at hr'
        simp only [Option.some.injEq, Prod.mk.injEq] at hr'
        omega
    · cases hr
  · rename_i t2 zs
    obtain ⟨rfl, rfl⟩ := castRow_spec hr
    cases hx with
    | sl0 _ => exact .inl ⟨rfl, rfl⟩
    | sl _ _ b o cap f hb hcap hc hl => exact .inr ⟨b, o, cap, f, rfl, hcap, hc, hl⟩
  · obtain rfl := Option.some.inj hr
    cases hx
    exact .inl ⟨rfl, rfl⟩
  · cases hr

theorem ownsRow_grownBy_refl (w : World) (row : Option Nat) : w.grownBy w row := ⟨rfl, rfl, rfl, Nat.le_refl _, fun _ _ _ => rfl⟩

theorem ownBlock_blk {u : Value} (h : ∀ a, u ≠ .pointer a) : u.ownBlock = blk u := by
  cases u <;> first | rfl | skip
  · exact absurd rfl (h _)
  · rename_i o _ _
    cases o <;> rfl

/-- Elements put behind an own slice's (or nil's). -/
theorem append_core {C : Cfg U} (h : RR C.E n N w0 ρ s a w) {t ty : TypeId} {τ : U.τ} (hτ : sliceElt C t = some τ) {i : TypeInfo} (hi : C.P.info? (U.ety τ) = some i) {z : Value} (hz : i.zero = some z)
    (hzs : z.cells.size = U.size τ) (hby : 1 ≤ i.bytes) {id : Nat} {u y : Value} {xs ys : List (U.T τ)} {cs : List Value}
    (hown : w.ownsRow w0.heap.size (U.ety τ) (U.size τ) u xs.length cs) (hpu : ∀ a, u ≠ .pointer a)
    (hxs : ∀ i (h : i < xs.length) k (hk : k < (C.E.enc τ xs[i]).length), Rel C.E w ρ (Stab N ρ w) (C.E.enc τ xs[i])[k] (cs.getD (i * U.size τ + k) undef))
    (hy : Elems C.E w ρ (Stab N ρ w) τ ys y) (hbytes : (xs.length + ys.length) * i.bytes ≤ 140737488355328) (g' : Nat)
    (hid : (∃ g, ρ id = some (g, u) ∧ g < g') ∨ (ρ id = none ∧ u = .slice none 0 0)) :
    ∃ v' w', (Builtin.append_ #[t, t] ty #[u, y]).run C.P w = .ok v' w' ∧ RR C.E n N w0 (rset ρ id g' v') (s.obj id (.row τ g' (xs ++ ys))) a w' ∧ ∀ p, v' ≠ .pointer p := by
  obtain ⟨hu, i', hi', his⟩ := sliceElt_spec hτ
  rw [hi] at hi'
  obtain rfl := Option.some.inj hi'
  have hold : ∀ g u', ρ id = some (g, u') → (∀ a, u' ≠ .pointer a) ∧ g < g' := fun g u' hr => by
    rcases hid with ⟨g0, h0, hg⟩ | ⟨h0, _⟩
    · rw [hr] at h0
      simp only [Option.some.injEq, Prod.mk.injEq] at h0
      obtain ⟨rfl, rfl⟩ := h0
      exact ⟨hpu, hg⟩
    · rw [h0] at hr; cases hr
  have hbind : ∀ b, u.ownBlock = some b → ((ρ id).bind fun p => blk p.2) = some b := fun b hb => by
    rcases hid with ⟨g0, h0, hg⟩ | ⟨h0, rfl⟩
    · rw [h0, ← hb, ownBlock_blk hpu]; rfl
    · cases hb
  have hgr : ∀ w', w.grownBy w' u.ownBlock → w.grownBy w' ((ρ id).bind fun p => blk p.2) := fun w' hg => by
    refine ⟨hg.os, hg.tape, hg.output, hg.size, fun k hk hne => hg.block k hk (fun e => ?_)⟩
    exact hne (hbind k e.symm).symm
  have hle : xs.length + ys.length ≤ maxLen := by
    have : (xs.length + ys.length) * 1 ≤ (xs.length + ys.length) * i.bytes := Nat.mul_le_mul_left _ hby
    unfold maxLen
    omega
  have hsz := C.E.pos τ
  rcases hy with ⟨rfl, rfl⟩ | ⟨b, o, cap, f, rfl, hcap, hc, hl⟩
  · -- nothing to append
    refine ⟨u, w, ?_, ?_, hpu⟩
    · rcases hown.2 with ⟨rfl, _⟩ | ⟨gb, cap, cur, rfl, hbase, hgb, hn, _⟩
      · simp [Builtin.append_, run_underlying hu, sizeOf, typeInfo, hi, Builtin.lenOf, Builtin.firstCells]
      · simp [Builtin.append_, run_underlying hu, sizeOf, typeInfo, hi, Builtin.lenOf, Builtin.firstCells, hn, storeCells]
    · refine h.newRow hold (ownsRow_grownBy_refl _ _) (by simpa using hown) (fun b hb => ?_) (by simpa using hxs)
      rcases hid with ⟨g0, h0, hg⟩ | ⟨h0, rfl⟩
      · exact .inl ⟨_, _, h0, hb⟩
      · cases hb
  · have hnl : ((List.range (ys.length * U.size τ)).map f).length = ys.length * U.size τ := by simp
    have hone : ∀ x ∈ (List.range (ys.length * U.size τ)).map f, x.oneCell' = true := fun x hx => by
      obtain ⟨j, hj, rfl⟩ := List.mem_map.1 hx
      have hj' : j < ys.length * U.size τ := by simpa using hj
      have hq : j / U.size τ < ys.length := Nat.div_lt_of_lt_mul (by rw [Nat.mul_comm]; exact hj')
      have hm : j % U.size τ < (C.E.enc τ ys[j / U.size τ]).length := by rw [C.E.enc_len]; exact Nat.mod_lt _ hsz
      have := hl (j / U.size τ) hq (j % U.size τ) hm
      have e : j / U.size τ * U.size τ + j % U.size τ = j := by rw [Nat.mul_comm]; exact Nat.div_add_mod _ _
      rw [e] at this
      obtain ⟨hfl, hcell⟩ := C.E.enc_flat τ _ _ (List.getElem_mem hm)
      refine this.oneCell hcell (fun _ _ _ hr => (h.own hr).1) (fun id g he => ?_) (fun id g i off sz he => ?_)
      · rw [he] at hfl; cases hfl
      · rw [he] at hfl; cases hfl
    have hnews : ∀ j x, ((List.range (ys.length * U.size τ)).map f)[j]? = some x → w.cell? ((⟨b, o, none⟩ : Addr).add j) = some x := fun j x hx => by
      have hj : j < ys.length * U.size τ := by
        have := (List.getElem?_eq_some_iff.1 hx).1
        simpa using this
      rw [Addr.add_at, hc j hj]
      have := (List.getElem?_eq_some_iff.1 hx).2
      simp at this
      rw [this]
    obtain ⟨v', w', hrun, hown', hgrow, hnil⟩ := run_append_own (P := C.P) w w0.heap.size t ty (U.ety τ) i z (U.size τ) i.bytes hu hi hz his rfl hzs hsz u xs.length cs hown
      ⟨b, o, none⟩ ys.length cap ((List.range (ys.length * U.size τ)).map f) hnl hnews hone hle hbytes h.below.size
    have hpv : ∀ p, v' ≠ .pointer p := fun p e => by
      rcases hown'.2 with ⟨h0, _⟩ | ⟨_, _, _, h0, _⟩ <;> rw [h0] at e <;> cases e
    refine ⟨v', w', hrun, ?_, hpv⟩
    have hlen : (xs ++ ys).length = xs.length + ys.length := by simp
    refine h.newRow hold (hgr w' hgrow) (by rw [hlen]; exact hown') (fun b' hb' => ?_) (fun j hj k hk => ?_)
    · -- the new value's block is the old one, or new
      rcases hid with ⟨g0, h0, hg⟩ | ⟨h0, rfl⟩
      · rcases hown.2 with ⟨rfl, hx0⟩ | ⟨gb, cap', cur, rfl, hbase, hgb, hn, hcm, hcs, htake⟩
        · refine .inr ?_
          have hx1 : xs = [] := List.eq_nil_of_length_eq_zero hx0
          subst hx1
          obtain ⟨v2, w2, hrun2, hown2, _⟩ := run_append_own (P := C.P) w w.heap.size t ty (U.ety τ) i z (U.size τ) i.bytes hu hi hz his rfl hzs hsz (.slice none 0 0) 0 [] (World.ownsRow_nil _ _ _ _)
            ⟨b, o, none⟩ ys.length cap ((List.range (ys.length * U.size τ)).map f) hnl hnews hone (by simpa using hle) (by simpa using hbytes) (Nat.le_refl _)
          rw [hrun2] at hrun
          simp only [Result.ok.injEq] at hrun
          obtain ⟨rfl, rfl⟩ := hrun
          exact (hown2.lt b' (by rw [ownBlock_blk hpv]; exact hb')).1
        · by_cases hroom : xs.length + ys.length ≤ cap'
          · have hr := run_append_room (P := C.P) w t ty (U.ety τ) i hu hi gb xs.length cap' cur hgb ⟨b, o, none⟩ ys.length cap ((List.range (ys.length * U.size τ)).map f) (by rw [hnl, his]) hnews hone hroom (by
              rw [hnl, hcs, his, ← Nat.add_mul]; exact Nat.mul_le_mul_right _ hroom)
            rw [hr] at hrun
            simp only [Result.ok.injEq] at hrun
            obtain ⟨rfl, _⟩ := hrun
            exact .inl ⟨_, _, h0, hb'⟩
          · have hr := run_append_grow (P := C.P) w t ty (U.ety τ) i z hu hi hz ⟨gb, 0, none⟩ xs.length cap' cs (by rw [hown.1, his]) (hown.cells (g := gb) rfl) ⟨b, o, none⟩ ys.length cap
              ((List.range (ys.length * U.size τ)).map f) (by rw [hnl, his]) hnews (by omega) (by unfold maxLen at hle; omega) (growslice_fits (by omega) hbytes)
            rw [hr] at hrun
            simp only [Result.ok.injEq] at hrun
            obtain ⟨rfl, _⟩ := hrun
            simp only [blk, Option.some.injEq] at hb'
            exact .inr (by omega)
      · refine .inr ?_
        have hx0 : xs.length = 0 := by
          rcases hown.2 with ⟨_, h⟩ | ⟨_, _, _, h, _⟩
          · exact h
          · cases h
        have hx1 : xs = [] := List.eq_nil_of_length_eq_zero hx0
        subst hx1
        obtain ⟨v2, w2, hrun2, hown2, _⟩ := run_append_own (P := C.P) w w.heap.size t ty (U.ety τ) i z (U.size τ) i.bytes hu hi hz his rfl hzs hsz (.slice none 0 0) 0 [] (World.ownsRow_nil _ _ _ _)
          ⟨b, o, none⟩ ys.length cap ((List.range (ys.length * U.size τ)).map f) hnl hnews hone (by simpa using hle) (by simpa using hbytes) (Nat.le_refl _)
        rw [hrun2] at hrun
        simp only [Result.ok.injEq] at hrun
        obtain ⟨rfl, rfl⟩ := hrun
        exact (hown2.lt b' (by rw [ownBlock_blk hpv]; exact hb')).1
    · have hk' : k < U.size τ := by rw [C.E.enc_len] at hk; exact hk
      by_cases hjx : j < xs.length
      · have e : (xs ++ ys)[j] = xs[j] := List.getElem_append_left hjx
        have hin : j * U.size τ + k < cs.length := by
          rw [hown.1]
          have : (j + 1) * U.size τ ≤ xs.length * U.size τ := Nat.mul_le_mul_right _ hjx
          rw [Nat.add_mul, Nat.one_mul] at this
          omega
        have := hxs j hjx k (by rw [e] at hk; exact hk)
        simp only [e]
        simpa [List.getElem?_append, hin] using this
      · have hj2 : j - xs.length < ys.length := by rw [hlen] at hj; omega
        have e : (xs ++ ys)[j] = ys[j - xs.length] := List.getElem_append_right (by omega)
        have := hl (j - xs.length) hj2 k (by rw [e] at hk; exact hk)
        simp only [e]
        have hjm : j * U.size τ = xs.length * U.size τ + (j - xs.length) * U.size τ := by
          rw [← Nat.add_mul]
          congr 1
          omega
        have h4 : (j - xs.length + 1) * U.size τ ≤ ys.length * U.size τ := Nat.mul_le_mul_right _ hj2
        rw [Nat.add_mul, Nat.one_mul] at h4
        have e2 : (cs ++ (List.range (ys.length * U.size τ)).map f).getD (j * U.size τ + k) undef = f ((j - xs.length) * U.size τ + k) := by
          have h5 : ¬ j * U.size τ + k < cs.length := by rw [hown.1]; omega
          have h6 : j * U.size τ + k - cs.length = (j - xs.length) * U.size τ + k := by rw [hown.1]; omega
          have h7 : (j - xs.length) * U.size τ + k < ys.length * U.size τ := by omega
          simp [List.getElem?_append, h5, h6, h7]
        rw [e2]
        exact this
end
end Go.Vm
