/-
  The abstract operations are right: stores. Conditions: none; lemmas over any program.
-/
import Derived.Test.YtohecfbnmmgimaaVmD
namespace Go.Vm
open Go.RowKit
set_option linter.unusedVariables false

section
variable {U : Univ} {E : Enc U} {n : Nat} {N : Nat → Prop} {w0 w w' : World} {ρ ρ' : Nat → Option (Nat × Value)} {s : ASt U} {a : Act} {P : Program}

theorem rel_dec {st : Nat → Prop} {t : U.τ} {l : List (AVal U)} {x : U.T t} (hd : E.dec t l = some x) {f : Nat → Value} (h : ∀ k (hk : k < l.length), Rel E w ρ st l[k] (f k)) :
    ∀ k (hk : k < (E.enc t x).length), Rel E w ρ st (E.enc t x)[k] (f k) := by
  intro k hk
  have hl := E.dec_len t l x hd
  have hk' : k < U.size t := by rw [E.enc_len] at hk; exact hk
  have h1 := h k (by omega)
  have e1 : l.getD k .any = l[k]'(by omega) := by
    have : k < l.length := by omega
    simp [this]
  have e2 : (E.enc t x).getD k .any = (E.enc t x)[k] := by simp [hk]
  rcases E.dec_enc t l x hd k hk' with h2 | ⟨h2, t', h3⟩
  · rw [e1, e2] at h2
    rw [← h2]
    exact h1
  · rw [e1] at h2
    rw [e2] at h3
    rw [h3]
    rw [h2] at h1
    generalize f k = v at h1
    cases h1
    exact .sl0 t'

theorem splice_get (c vs : List Value) (p off sz k : Nat) (h : p + sz ≤ c.length) (ho : off + vs.length ≤ sz) (hk : k < sz) :
    (((c.drop p).take sz).take off ++ vs ++ ((c.drop p).take sz).drop (off + vs.length))[k]? = (c.take (p + off) ++ vs ++ c.drop (p + off + vs.length))[p + k]? := by
  have l1 : (((c.drop p).take sz).take off).length = off := by simp; omega
  have l2 : (c.take (p + off)).length = p + off := by simp; omega
  simp only [List.append_assoc, List.getElem?_append, l1, l2]
  by_cases h5 : k < off
  · rw [if_pos h5, if_pos (show p + k < p + off by omega)]
    simp only [List.getElem?_take, List.getElem?_drop]
    rw [if_pos h5, if_pos hk, if_pos (show p + k < p + off by omega)]
  · rw [if_neg h5, if_neg (show ¬ p + k < p + off by omega)]
    have e : p + k - (p + off) = k - off := by omega
    rw [e]
    by_cases h6 : k - off < vs.length
    · rw [if_pos h6, if_pos h6]
    · rw [if_neg h6, if_neg h6]
      simp only [List.getElem?_take, List.getElem?_drop]
      rw [if_pos (by omega)]
      congr 1
      omega

theorem storable_sound (h : RR E n N w0 ρ s a w) {look : Nat → Option (AObj U)} (hlook : ∀ id ob, look id = some ob → s.objs id = some ob)
    {x : AVal U} {v : Value} (hx : Rel E w ρ (Stab N ρ w) x v) (hs : storable look x = true) : v.oneCell' = true := by
  unfold storable at hs
  have hcur : ∀ id t g xs, look id = some (.row t g xs) → ∃ u, ρ id = some (g, u) := fun id t g xs hl => by
    obtain ⟨u, _, h1, _⟩ := h.objs _ _ (hlook _ _ hl)
    exact ⟨u, h1⟩
  split at hs
  · split at hs
    · rename_i id g _ t g' xs hl
      obtain rfl := Nat.eq_of_beq_eq_true hs
      exact hx.oneCell rfl (fun _ _ _ hr => (h.own hr).1) (fun id' g1 he => by cases he; exact hcur _ _ _ _ hl) (fun _ _ _ _ _ he => by cases he)
    · cases hs
  · split at hs
    · rename_i id g _ _ _ _ t g' xs hl
      obtain rfl := Nat.eq_of_beq_eq_true hs
      exact hx.oneCell rfl (fun _ _ _ hr => (h.own hr).1) (fun id' g1 he => by cases he) (fun _ _ _ _ _ he => by cases he; exact hcur _ _ _ _ hl)
    · cases hs
  · rename_i h1 h2
    exact hx.oneCell hs (fun _ _ _ hr => (h.own hr).1) (fun id g he => absurd he (h1 id g)) (fun id g i off sz he => absurd he (h2 id g i off sz))

theorem cells_one {v : Value} (h : v.oneCell' = true) : v.cells = #[v] := by
  cases v <;> first | rfl | cases h

theorem cellsOf_sound (h : RR E n N w0 ρ s a w) {look : Nat → Option (AObj U)} (hlook : ∀ id ob, look id = some ob → s.objs id = some ob)
    {x : AVal U} {v : Value} (hx : Rel E w ρ (Stab N ρ w) x v) (hs : x.cellsOf.all (storable look) = true) :
    v.cells.size = x.cellsOf.length ∧ (∀ k (hk : k < x.cellsOf.length), Rel E w ρ (Stab N ρ w) x.cellsOf[k] (v.cells.toList.getD k undef)) ∧ ∀ u ∈ v.cells.toList, u.oneCell' = true := by
  by_cases hag : ∃ l, x = .agg l
  · obtain ⟨l, rfl⟩ := hag
    cases hx with
    | agg _ vs hn hl =>
      refine ⟨hn, fun k hk => ?_, fun u hu => ?_⟩
      · show Rel E w ρ (Stab N ρ w) l[k] (vs.toList.getD k undef)
        rw [getD_toList]
        exact hl k hk
      · obtain ⟨k, hk, rfl⟩ := List.mem_iff_getElem.1 hu
        have hk' : k < l.length := by simpa [Value.cells, hn] using hk
        have hr := hl k hk'
        have hst : storable look l[k] = true := by
          simp only [AVal.cellsOf, List.all_eq_true] at hs
          exact hs _ (List.getElem_mem hk')
        have e : vs.getD k undef = (Value.agg vs).cells.toList[k] := by
          have : k < vs.size := by omega
          simp [Value.cells, this]
        rw [← e]
        exact storable_sound h hlook hr hst
  · have hc : x.cellsOf = [x] := by
      cases x <;> first | rfl | exact absurd ⟨_, rfl⟩ hag
    rw [hc] at hs ⊢
    have hst : storable look x = true := by simpa using hs
    have hone := storable_sound h hlook hx hst
    rw [cells_one hone]
    refine ⟨rfl, fun k hk => ?_, fun u hu => ?_⟩
    · have : k = 0 := by simpa using hk
      subst this
      simpa using hx
    · simp only [List.mem_singleton] at hu
      subst hu
      exact hone

theorem below_setRow {base g : Nat} (hg : base ≤ g) (w : World) (cs : Array Value) : Below base w (w.setRow g cs) :=
  ⟨rfl, rfl, rfl, by simp, fun k hk => setRow_other w g k cs (by omega)⟩

theorem storeAt_sound (h : RR E n N w0 ρ s a w) {look : Nat → Option (AObj U)} (hlook : ∀ id ob, look id = some ob → s.objs id = some ob)
    {p x : AVal U} {v u : Value} (hp : Rel E w ρ (Stab N ρ w) p v) (hx : Rel E w ρ (Stab N ρ w) x u) {id : Nat} {ob : AObj U} (hs : storeAt E look p x.cellsOf = some (id, ob))
    {t : TypeId} {m : Nat} (hm : sizeT P t = some m) (hlen : x.cellsOf.length = m) :
    ∃ w' ρ', (Instr.storeAt t v u).run P w = .ok () w' ∧ RR E n N w0 ρ' (s.obj id ob) a w' := by
  obtain ⟨ti, hti, htis⟩ := sizeT_spec hm
  unfold storeAt at hs
  have hall : x.cellsOf.all (storable look) = true := by
    cases hc : x.cellsOf.all (storable look) <;> rw [hc] at hs <;> simp_all
  rw [hall] at hs
  simp only [cond_true] at hs
  obtain ⟨hsz, hrel, hone⟩ := cellsOf_sound h hlook hx hall
  have hvl : u.cells.toList.length = x.cellsOf.length := by simpa using hsz
  split at hs
  · -- a variable
    rename_i id' off
    split at hs
    · rename_i l hl'
      have hc : Nat.ble (off + x.cellsOf.length) l.length = true := by
        cases hc : Nat.ble (off + x.cellsOf.length) l.length <;> rw [hc] at hs <;> simp_all
      rw [hc] at hs
      simp only [cond_true, Option.some.injEq, Prod.mk.injEq] at hs
      obtain ⟨rfl, rfl⟩ := hs
      have hle := Nat.le_of_ble_eq_true hc
      obtain ⟨b, c, ty, h1, h2, h3, h4, h5⟩ := h.objs _ _ (hlook _ _ hl')
      cases hp with
      | ptr _ _ b' hb' =>
        rw [h1] at hb'
        simp only [Option.some.injEq, Prod.mk.injEq, true_and, Value.pointer.injEq, Addr.mk.injEq, and_true] at hb'
        subst hb'
        have hrun := run_storeCells_at P b off ty u.cells.toList 0 c w h3 (by simp only [Nat.add_zero]; omega) hone
        simp only [Nat.add_zero] at hrun
        refine ⟨w.setRow b (c.toList.take off ++ u.cells.toList ++ c.toList.drop (off + u.cells.toList.length)).toArray, rset ρ id' 0 (.pointer (some ⟨b, 0, none⟩)), ?_, ?_⟩
        · simp only [Instr.storeAt, Instr.sureAddr, storeVar, sizeOf, typeInfo, Sem.run_bind, Sem.run_pure, Result.andThen_ok, run_program, hti]
          have : ¬ (u.cells.size ≠ ti.size) := by simp only [ne_eq, Decidable.not_not]; omega
          simp only [if_neg this]
          exact hrun
        · have hold : ∀ g u', ρ id' = some (g, u') → (g = 0 ∧ u' = .pointer (some ⟨b, 0, none⟩)) ∨ ((∀ a, u' ≠ .pointer a) ∧ g < 0) := fun g u' hr => by
            rw [h1] at hr
            simp only [Option.some.injEq, Prod.mk.injEq] at hr
            exact .inl ⟨hr.1.symm, hr.2.symm⟩
          have hsame : ∀ b', b' < w.heap.size → (∀ g u', ρ id' = some (g, u') → blk u' ≠ some b') → (w.setRow b (c.toList.take off ++ u.cells.toList ++ c.toList.drop (off + u.cells.toList.length)).toArray).heap[b']? = w.heap[b']? := fun b' _ hne =>
            setRow_other w b b' _ (fun e => hne _ _ h1 (by simp [blk, e]))
          have hnew : ∀ b', blk (.pointer (some ⟨b, 0, none⟩)) = some b' → (∃ g u', ρ id' = some (g, u') ∧ blk u' = some b') ∨ (w.heap.size ≤ b') := fun b' hb' => .inl ⟨_, _, h1, hb'⟩
          refine h.upd id' 0 _ _ hold (below_setRow h2 w _) hsame hnew ?_
          refine ⟨b, _, ty, by simp [rset], h2, setRow_heap w b c _ ty (0, 0) h3, ?_, fun k hk => ?_⟩
          · simp only [List.size_toArray, List.length_append, List.length_take, List.length_drop, Array.length_toList, setCells_length]
            omega
          · have hk2 := setCells_rel x.cellsOf u.cells.toList l off c.toList (by omega) hle (by simpa using h4) hrel (fun k hk => by rw [getD_toList]; exact h5 k hk) k hk
            have := h.upd_rel id' 0 _ hold (below_setRow h2 w _) hsame hnew hk2
            simpa using this
    · cases hs
  · -- an element of an own row
    rename_i id' g i off sz
    split at hs
    · rename_i t' g' xs hl'
      have hc : (Nat.beq g g' && Nat.beq sz (U.size t') && Nat.ble (off + x.cellsOf.length) (U.size t')) = true := by
        cases hc : (Nat.beq g g' && Nat.beq sz (U.size t') && Nat.ble (off + x.cellsOf.length) (U.size t')) <;> rw [hc] at hs <;> simp_all
      rw [hc] at hs
      simp only [cond_true] at hs
      simp only [Bool.and_eq_true] at hc
      obtain ⟨⟨hc1, hc2⟩, hc3⟩ := hc
      obtain rfl := Nat.eq_of_beq_eq_true hc1
      obtain rfl := Nat.eq_of_beq_eq_true hc2
      have hle := Nat.le_of_ble_eq_true hc3
      split at hs
      · rename_i y hy
        simp only [Option.some.injEq, Prod.mk.injEq] at hs
        obtain ⟨rfl, rfl⟩ := hs
        obtain ⟨u1, cs, h1, hpp, h2, h3⟩ := h.objs _ _ (hlook _ _ hl')
        cases hp with
        | eptrOld _ _ _ _ _ g' u' v hr hg =>
          rw [h1] at hr
          simp only [Option.some.injEq, Prod.mk.injEq] at hr
          omega
        | eptr _ _ _ _ _ b n' cap hr hi =>
          rw [h1] at hr
          simp only [Option.some.injEq, Prod.mk.injEq, true_and] at hr
          subst hr
          rcases h2.2 with ⟨h0, _⟩ | ⟨gb, cap', cur, heq, hbase, hgb, hn, hcm, hcs, htake⟩
          · cases h0
          simp only [Value.slice.injEq, Option.some.injEq, Addr.mk.injEq, and_true] at heq
          obtain ⟨rfl, rfl, rfl⟩ := heq
          have hxi : xs.getD i (E.dflt t') = xs[i] := by simp [hi]
          rw [hxi] at hy
          have hil : (i + 1) * U.size t' ≤ xs.length * U.size t' := Nat.mul_le_mul_right _ hi
          have hnl : xs.length * U.size t' ≤ cap * U.size t' := Nat.mul_le_mul_right _ hn
          have hi1 : (i + 1) * U.size t' = i * U.size t' + U.size t' := by rw [Nat.add_mul, Nat.one_mul]
          have hrun := run_storeCells_at P b (i * U.size t' + off) (U.ety t') u.cells.toList 0 cur w hgb (by simp only [Nat.add_zero]; omega) hone
          simp only [Nat.add_zero] at hrun
          refine ⟨w.setRow b (cur.toList.take (i * U.size t' + off) ++ u.cells.toList ++ cur.toList.drop (i * U.size t' + off + u.cells.toList.length)).toArray, rset ρ id' g (.slice (some ⟨b, 0, none⟩) xs.length cap), ?_, ?_⟩
          · simp only [Instr.storeAt, Instr.sureAddr, storeVar, sizeOf, typeInfo, Sem.run_bind, Sem.run_pure, Result.andThen_ok, run_program, hti]
            have : ¬ (u.cells.size ≠ ti.size) := by simp only [ne_eq, Decidable.not_not]; omega
            simp only [if_neg this]
            exact hrun
          · have hold : ∀ g1 u', ρ id' = some (g1, u') → (g1 = g ∧ u' = .slice (some ⟨b, 0, none⟩) xs.length cap) ∨ ((∀ a, u' ≠ .pointer a) ∧ g1 < g) := fun g1 u' hr => by
              rw [h1] at hr
              simp only [Option.some.injEq, Prod.mk.injEq] at hr
              exact .inl ⟨hr.1.symm, hr.2.symm⟩
            have hsame : ∀ b', b' < w.heap.size → (∀ g u', ρ id' = some (g, u') → blk u' ≠ some b') → (w.setRow b (cur.toList.take (i * U.size t' + off) ++ u.cells.toList ++ cur.toList.drop (i * U.size t' + off + u.cells.toList.length)).toArray).heap[b']? = w.heap[b']? := fun b' _ hne =>
              setRow_other w b b' _ (fun e => hne _ _ h1 (by simp [blk, e]))
            have hnew : ∀ b', blk (.slice (some ⟨b, 0, none⟩) xs.length cap) = some b' → (∃ g u', ρ id' = some (g, u') ∧ blk u' = some b') ∨ (w.heap.size ≤ b') := fun b' hb' => .inl ⟨_, _, h1, hb'⟩
            have hb := below_setRow hbase w (cur.toList.take (i * U.size t' + off) ++ u.cells.toList ++ cur.toList.drop (i * U.size t' + off + u.cells.toList.length)).toArray
            refine h.upd id' g _ _ hold hb hsame hnew ?_
            have hlen' : (xs.set i y).length = xs.length := by simp
            refine ⟨_, (cur.toList.take (i * U.size t' + off) ++ u.cells.toList ++ cur.toList.drop (i * U.size t' + off + u.cells.toList.length)).take (xs.length * U.size t'), by simp [rset], hpp, ⟨?_, .inr ⟨b, cap, _, by rw [hlen'], hbase, setRow_heap w b cur _ _ (0, 0) hgb, by rw [hlen']; exact hn, hcm, ?_, by rw [hlen']⟩⟩, ?_⟩
            · rw [hlen']
              simp only [List.length_take, List.length_append, List.length_drop, Array.length_toList]
              omega
            · simp only [List.size_toArray, List.length_append, List.length_take, List.length_drop, Array.length_toList]
              omega
            · intro j hj k hk
              rw [hlen'] at hj
              have hk' : k < U.size t' := by rw [E.enc_len] at hk; exact hk
              have hjl : (j + 1) * U.size t' ≤ xs.length * U.size t' := Nat.mul_le_mul_right _ hj
              have hj1 : (j + 1) * U.size t' = j * U.size t' + U.size t' := by rw [Nat.add_mul, Nat.one_mul]
              have hget : ∀ q, q < xs.length * U.size t' → ((cur.toList.take (i * U.size t' + off) ++ u.cells.toList ++ cur.toList.drop (i * U.size t' + off + u.cells.toList.length)).take (xs.length * U.size t')).getD q undef =
                  (cur.toList.take (i * U.size t' + off) ++ u.cells.toList ++ cur.toList.drop (i * U.size t' + off + u.cells.toList.length)).getD q undef := fun q hq => by
                simp [hq]
              rw [hget _ (by omega)]
              refine h.upd_rel id' g _ hold hb hsame hnew ?_
              have hcur : ∀ q, q < xs.length * U.size t' → cs.getD q undef = cur.toList.getD q undef := fun q hq => by
                rw [← htake]
                simp [hq]
              by_cases hji : j = i
              · subst hji
                have hyj : (xs.set j y)[j]'(by simpa using hj) = y := by simp
                have hcells : ∀ k (hk : k < (setCells (E.enc t' xs[j]) off x.cellsOf).length), Rel E w ρ (Stab N ρ w) (setCells (E.enc t' xs[j]) off x.cellsOf)[k]
                    ((cur.toList.take (j * U.size t' + off) ++ u.cells.toList ++ cur.toList.drop (j * U.size t' + off + u.cells.toList.length)).getD (j * U.size t' + k) undef) := fun k hk => by
                  have hk2 := hk
                  rw [setCells_length, E.enc_len] at hk2
                  have := setCells_rel x.cellsOf u.cells.toList (E.enc t' xs[j]) off ((cur.toList.drop (j * U.size t')).take (U.size t')) (by omega) (by rw [E.enc_len]; exact hle)
                    (by rw [E.enc_len]; simp; omega) hrel (fun k hk => by
                      have hk3 : k < U.size t' := by rw [E.enc_len] at hk; exact hk
                      have := h3 j hi k hk
                      rw [hcur _ (by omega)] at this
                      simpa [List.getElem?_take, hk3, List.getElem?_drop] using this) k hk
                  have e : (((cur.toList.drop (j * U.size t')).take (U.size t')).take off ++ u.cells.toList ++ ((cur.toList.drop (j * U.size t')).take (U.size t')).drop (off + u.cells.toList.length)).getD k undef =
                      (cur.toList.take (j * U.size t' + off) ++ u.cells.toList ++ cur.toList.drop (j * U.size t' + off + u.cells.toList.length)).getD (j * U.size t' + k) undef := by
                    have hcl : cur.toList.length = cap * U.size t' := by simpa using hcs
                    simp only [List.getD_eq_getElem?_getD]
                    rw [splice_get cur.toList u.cells.toList (j * U.size t') off (U.size t') k (by omega) (by omega) hk2]
                  rw [e] at this
                  exact this
                have := rel_dec hy (f := fun k => (cur.toList.take (j * U.size t' + off) ++ u.cells.toList ++ cur.toList.drop (j * U.size t' + off + u.cells.toList.length)).getD (j * U.size t' + k) undef) hcells k (by rw [hyj] at hk; exact hk)
                simp only [hyj]
                exact this
              · have hyj : (xs.set i y)[j]'(by simpa using hj) = xs[j] := by
                  rw [List.getElem_set_ne (Ne.symm hji)]
                have := h3 j hj k (by rw [hyj] at hk; exact hk)
                rw [hcur _ (by omega)] at this
                have e : (cur.toList.take (i * U.size t' + off) ++ u.cells.toList ++ cur.toList.drop (i * U.size t' + off + u.cells.toList.length)).getD (j * U.size t' + k) undef = cur.toList.getD (j * U.size t' + k) undef := by
                  simp only [List.getD_eq_getElem?_getD]
                  congr 1
                  have hcl : cur.toList.length = cap * U.size t' := by simpa using hcs
                  simp only [List.append_assoc, List.getElem?_append, List.length_take, hcl]
                  rcases Nat.lt_or_gt_of_ne hji with hlt | hgt
                  · have : (j + 1) * U.size t' ≤ i * U.size t' := Nat.mul_le_mul_right _ hlt
                    rw [if_pos (by omega)]
                    rw [List.getElem?_take, if_pos (by omega)]
                  · have : (i + 1) * U.size t' ≤ j * U.size t' := Nat.mul_le_mul_right _ hgt
                    rw [if_neg (by omega), if_neg (by omega)]
                    rw [List.getElem?_drop]
                    congr 1
                    omega
                rw [e]
                simp only [hyj]
                exact this
      · cases hs
    · cases hs
  · cases hs
end
end Go.Vm
