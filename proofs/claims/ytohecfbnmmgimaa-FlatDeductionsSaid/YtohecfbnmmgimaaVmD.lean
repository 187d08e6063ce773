/-
  The abstract operations are right: memory. Conditions: none; lemmas over any program.
-/
import Derived.Test.YtohecfbnmmgimaaVmC
namespace Go.Vm
open Go.RowKit
set_option linter.unusedVariables false

section
variable {U : Univ} {E : Enc U} {n : Nat} {N : Nat → Prop} {w0 w w' : World} {ρ ρ' : Nat → Option (Nat × Value)} {s : ASt U} {a : Act} {P : Program}

theorem Addr.add_at (b o k : Nat) : (⟨b, o, none⟩ : Addr).add k = ⟨b, o + k, none⟩ := by
  unfold Addr.add
  split
  · simp_all
  · rfl

/-- Cells at an address. -/
def At (E : Enc U) (w : World) (ρ : Nat → Option (Nat × Value)) (st : Nat → Prop) (l : List (AVal U)) (b o : Nat) (f : Nat → Value) : Prop :=
  ∀ k (h : k < l.length), w.cell? ⟨b, o + k, none⟩ = some (f k) ∧ Rel E w ρ st l[k] (f k)

theorem behind_sound (h : RR E n N w0 ρ s a w) {look : Nat → Option (AObj U)} (hlook : ∀ id ob, look id = some ob → s.objs id = some ob)
    {p : AVal U} {v : Value} (hp : Rel E w ρ (Stab N ρ w) p v) {l : List (AVal U)} {off : Nat} (hb : behind E look p = some (l, off)) :
    ∃ b o f, v = .pointer (some ⟨b, o + off, none⟩) ∧ At E w ρ (Stab N ρ w) l b o f := by
  unfold behind at hb
  split at hb
  · split at hb
    · rename_i id off' l' hl'
      simp only [Option.some.injEq, Prod.mk.injEq] at hb
      obtain ⟨rfl, rfl⟩ := hb
      obtain ⟨b, c, ty, h1, h2, h3, h4, h5⟩ := h.objs _ _ (hlook _ _ hl')
      cases hp with
      | ptr _ _ b' hb' =>
        rw [h1] at hb'
        simp only [Option.some.injEq, Prod.mk.injEq, true_and, Value.pointer.injEq, Addr.mk.injEq, and_true] at hb'
        subst hb'
        refine ⟨b, 0, fun k => c.getD k undef, by simp, fun k hk => ⟨?_, h5 k hk⟩⟩
        rw [Nat.zero_add, cell_of_row w b k c ty (0, 0) h3]
        have : k < c.size := by omega
        simp [this]
    · cases hb
  · split at hb
    · rename_i id g i off' sz _ t g' xs hl'
      have hcond : (Nat.beq g g' && Nat.beq sz (U.size t)) = true := by
        cases hc : (Nat.beq g g' && Nat.beq sz (U.size t)) <;> rw [hc] at hb <;> simp_all
      rw [hcond] at hb
      simp only [cond_true, Option.some.injEq, Prod.mk.injEq] at hb
      obtain ⟨rfl, rfl⟩ := hb
      simp only [Bool.and_eq_true] at hcond
      obtain rfl := Nat.eq_of_beq_eq_true hcond.1
      obtain rfl := Nat.eq_of_beq_eq_true hcond.2
      obtain ⟨u, cs, h1, hpp, h2, h3⟩ := h.objs _ _ (hlook _ _ hl')
      cases hp with
      | eptr _ _ _ _ _ b n' cap hr hi =>
        rw [h1] at hr
        simp only [Option.some.injEq, Prod.mk.injEq, true_and] at hr
        subst hr
        rcases h2.2 with ⟨h0, _⟩ | ⟨gb, cap', cur, heq, hbase, hgb, hn, hcm, hcs, htake⟩
        · cases h0
        · simp only [Value.slice.injEq, Option.some.injEq, Addr.mk.injEq, and_true] at heq
          obtain ⟨rfl, rfl, rfl⟩ := heq
          have hxi : xs.getD i (E.dflt t) = xs[i] := by simp [hi]
          rw [hxi]
          refine ⟨b, i * U.size t, fun k => cs.getD (i * U.size t + k) undef, rfl, fun k hk => ?_⟩
          refine ⟨?_, h3 i hi k hk⟩
          have hk' : k < U.size t := by rw [E.enc_len] at hk; exact hk
          have hin : i * U.size t + k < cs.length := by
            rw [h2.1]
            calc i * U.size t + k < i * U.size t + U.size t := by omega
              _ = (i + 1) * U.size t := by rw [Nat.add_mul, Nat.one_mul]
              _ ≤ xs.length * U.size t := Nat.mul_le_mul_right _ hi
          rw [cell_of_row w b _ cur _ (0, 0) hgb]
          have h6 : cs[i * U.size t + k]? = cur[i * U.size t + k]? := by
            rw [← htake, List.getElem?_take, if_pos (by rw [h2.1] at hin; exact hin)]
            simp
          rw [← h6]
          simp [hin]
      | eptrOld _ _ _ _ _ g' u' v hr hg =>
        rw [h1] at hr
        simp only [Option.some.injEq, Prod.mk.injEq] at hr
        omega
    · cases hb
  · simp only [Option.some.injEq, Prod.mk.injEq] at hb
    obtain ⟨rfl, rfl⟩ := hb
    cases hp with
    | ref _ _ b o f hst hc hl => exact ⟨b, o, f, rfl, fun k hk => ⟨hc k hk, hl k hk⟩⟩
  · cases hb

theorem sizeT_spec {t : TypeId} {m : Nat} (h : sizeT P t = some m) : ∃ i, P.info? t = some i ∧ i.size = m := by
  unfold sizeT at h
  split at h
  · rename_i i hi
    exact ⟨i, hi, Option.some.inj h⟩
  · cases h

theorem isAgg_run {t : TypeId} {d : TypeDesc} (h : P.underlying t = some d) : (isAgg t).run P w = .ok (isAggT P t) w := by
  unfold isAgg isAggT
  rw [h]
  simp only [Sem.run_bind, run_underlying h, Result.andThen_ok]
  cases d <;> rfl

/-- A part of cells, loaded. -/
theorem loadVar_sound {t : TypeId} {l : List (AVal U)} {off : Nat} {x : AVal U} {st : Nat → Prop} (hx : partOf P t l off = some x) {b o : Nat} {f : Nat → Value}
    (hat : At E w ρ st l b o f) : ∃ u, (loadVar t ⟨b, o + off, none⟩).run P w = .ok u w ∧ Rel E w ρ st x u := by
  unfold partOf at hx
  split at hx
  · rename_i d m hd hm
    obtain ⟨i, hi, rfl⟩ := sizeT_spec hm
    have hagg := isAgg_run (w := w) hd
    split at hx
    · rename_i hb
      have hc : Nat.ble (off + i.size) l.length = true := by
        cases hc : Nat.ble (off + i.size) l.length <;> rw [hc] at hx <;> simp_all
      rw [hc] at hx
      simp only [cond_true, Option.some.injEq] at hx
      subst hx
      have hle := Nat.le_of_ble_eq_true hc
      refine ⟨.agg ((List.range i.size).map fun k => f (off + k)).toArray, ?_, ?_⟩
      · have := run_loadCells (P := P) w ⟨b, o + off, none⟩ i.size (fun k => f (off + k)) (fun k hk => by
          rw [Addr.add_at, Nat.add_assoc]
          exact (hat (off + k) (by omega)).1)
        simp only [loadVar, Sem.run_bind, hagg, hb, Result.andThen_ok, if_true, sizeOf, typeInfo, run_program, hi, Sem.run_pure, this]
      · refine .agg _ _ (by simp; omega) (fun k hk => ?_)
        have hk' : k < i.size := by simp at hk; omega
        have := (hat (off + k) (by omega)).2
        have e : ((List.range i.size).map fun k => f (off + k)).toArray.getD k undef = f (off + k) := by simp [hk']
        rw [e]
        have e2 : ((l.drop off).take i.size)[k] = l[off + k]'(by omega) := by simp
        rw [e2]
        exact this
    · rename_i hb
      have hlt : off < l.length := (List.getElem?_eq_some_iff.1 hx).1
      obtain hx' := (List.getElem?_eq_some_iff.1 hx).2
      rw [← hx']
      refine ⟨f off, ?_, (hat off hlt).2⟩
      simp only [loadVar, Sem.run_bind, hagg, hb, Result.andThen_ok, Bool.false_eq_true, if_false]
      rw [run_load, (hat off hlt).1]
  · cases hx

/-- A part of an aggregate. -/
theorem part_sound {t : TypeId} {l : List (AVal U)} {off : Nat} {x : AVal U} {st : Nat → Prop} (hx : partOf P t l off = some x) {vs : Array Value} (hn : vs.size = l.length)
    (hl : ∀ k (h : k < l.length), Rel E w ρ st l[k] (vs.getD k undef)) : ∃ u, (part t vs off).run P w = .ok u w ∧ Rel E w ρ st x u := by
  unfold partOf at hx
  split at hx
  · rename_i d m hd hm
    obtain ⟨i, hi, rfl⟩ := sizeT_spec hm
    have hagg := isAgg_run (w := w) hd
    split at hx
    · rename_i hb
      have hc : Nat.ble (off + i.size) l.length = true := by
        cases hc : Nat.ble (off + i.size) l.length <;> rw [hc] at hx <;> simp_all
      rw [hc] at hx
      simp only [cond_true, Option.some.injEq] at hx
      subst hx
      have hle := Nat.le_of_ble_eq_true hc
      refine ⟨.agg (vs.extract off (off + i.size)), ?_, ?_⟩
      · simp only [part, Sem.run_bind, hagg, hb, Result.andThen_ok, if_true, sizeOf, typeInfo, run_program, hi, Sem.run_pure]
      · refine .agg _ _ (by simp; omega) (fun k hk => ?_)
        have hk' : k < i.size := by simp at hk; omega
        have := hl (off + k) (by omega)
        have h2 : k < min (off + i.size) vs.size - off := by omega
        have e : (vs.extract off (off + i.size)).getD k undef = vs.getD (off + k) undef := by
          have h3 : off + k < vs.size := by omega
          simp [h2, h3]
        rw [e]
        have e2 : ((l.drop off).take i.size)[k] = l[off + k]'(by omega) := by simp
        rw [e2]
        exact this
    · rename_i hb
      have hlt : off < l.length := (List.getElem?_eq_some_iff.1 hx).1
      obtain hx' := (List.getElem?_eq_some_iff.1 hx).2
      rw [← hx']
      refine ⟨vs.getD off undef, ?_, hl off hlt⟩
      have h2 : off < vs.size := by omega
      simp only [part, Sem.run_bind, hagg, hb, Result.andThen_ok, Bool.false_eq_true, if_false]
      simp [h2]
  · cases hx

theorem getD_toList (c : Array Value) (k : Nat) (d : Value) : c.toList.getD k d = c.getD k d := by simp

theorem setCells_length (cs : List (AVal U)) : ∀ (l : List (AVal U)) (off : Nat), (setCells l off cs).length = l.length := by
  induction cs with
  | nil => intro l off; rfl
  | cons c cs ih => intro l off; simp [setCells, ih]

/-- Cells stored among cells. -/
theorem setCells_rel {st : Nat → Prop} (cs : List (AVal U)) : ∀ (vs : List Value) (l : List (AVal U)) (off : Nat) (c : List Value), cs.length = vs.length → off + cs.length ≤ l.length → c.length = l.length →
    (∀ k (h : k < cs.length), Rel E w ρ st cs[k] (vs.getD k undef)) → (∀ k (h : k < l.length), Rel E w ρ st l[k] (c.getD k undef)) →
    ∀ k (h : k < (setCells l off cs).length), Rel E w ρ st (setCells l off cs)[k] ((c.take off ++ vs ++ c.drop (off + vs.length)).getD k undef) := by
  induction cs with
  | nil =>
    intro vs l off c hlen hle hcl hcs hl k hk
    have : vs = [] := List.eq_nil_of_length_eq_zero (by simpa using hlen.symm)
    subst this
    simp only [setCells] at hk ⊢
    simpa using hl k hk
  | cons x cs ih =>
    intro vs l off c hlen hle hcl hcs hl k hk
    cases vs with
    | nil => simp at hlen
    | cons v vs =>
      simp only [List.length_cons] at hlen hle
      have := ih vs (l.set off x) (off + 1) (c.set off v) (by omega) (by simp; omega) (by simp [hcl]) (fun k h => hcs (k + 1) (by simp; omega)) (fun k h => by
        by_cases hko : off = k
        · subst hko
          have h0 := hcs 0 (by simp)
          have : off < c.length := by omega
          simpa [this] using h0
        · have := hl k (by simpa using h)
          rw [List.getElem_set_ne hko]
          simpa [List.getElem?_set_ne hko] using this) k (by simpa [setCells] using hk)
      simp only [setCells]
      have e : (c.set off v).take (off + 1) ++ vs ++ (c.set off v).drop (off + 1 + vs.length) = c.take off ++ v :: vs ++ c.drop (off + (v :: vs).length) := by
        have h1 : (c.set off v).take (off + 1) = c.take off ++ [v] := by
          rw [List.take_succ_eq_append_getElem (by simp; omega)]
          simp [List.take_set_of_le]
        have h2 : (c.set off v).drop (off + 1 + vs.length) = c.drop (off + (v :: vs).length) := by
          rw [List.drop_set_of_lt (by omega)]
          simp only [List.length_cons]
          congr 1
          omega
        rw [h1, h2]
        simp
      rw [e] at this
      exact this
end
end Go.Vm
