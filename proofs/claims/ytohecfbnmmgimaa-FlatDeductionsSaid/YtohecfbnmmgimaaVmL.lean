/-
  One abstract operation is right. Conditions: the summaries of the called functions are right.
-/
import Derived.Test.YtohecfbnmmgimaaVmK
namespace Go.Vm
open Go.RowKit
set_option linter.unusedVariables false

section
variable {U : Univ} {n : Nat} {N : Nat → Prop} {w0 w w' : World} {ρ ρ' : Nat → Option (Nat × Value)} {s : ASt U} {a : Act}

theorem afill_length {look : Nat → Option (AObj U)} {place : Nat → Option (Nat × Nat)} : ∀ (ps : List (Nat × AVal U)) (l0 l1 : List (AVal U)), afill look place l0 ps = some l1 → l1.length = l0.length := by
  intro ps
  induction ps with
  | nil => intro l0 l1 h; simp only [afill, Option.some.injEq] at h; rw [h]
  | cons p ps ih =>
    intro l0 l1 h
    obtain ⟨i, x⟩ := p
    simp only [afill] at h
    split at h
    · cases h
    · obtain ⟨_, h⟩ := cond_some h
      rw [ih _ _ h, setCells_length]

theorem mapM_places {P : Program} : ∀ (l : List Field) (w : World) (r : List (Nat × Nat)), fieldPlaces P l = some r →
    (l.mapM fun f => do pure (f.offset, ← sizeOf f.type) : Sem (List (Nat × Nat))).run P w = .ok r w := by
  intro l
  induction l with
  | nil =>
    intro w r hr
    simp only [fieldPlaces, Option.some.injEq] at hr
    subst hr
    rfl
  | cons f l ih =>
    intro w r hr
    simp only [fieldPlaces] at hr
    split at hr
    · rename_i m r' hm hr'
      obtain rfl := Option.some.inj hr
      obtain ⟨i, hi, rfl⟩ := sizeT_spec hm
      have e := ih w r' hr'
      simp only [List.mapM_cons, Sem.run_bind, sizeOf, typeInfo, run_program, Result.andThen_ok, Sem.run_pure]
      simp only [hi, Sem.run_pure, Result.andThen_ok]
      simp only [sizeOf, typeInfo] at e
      simp only [e, Result.andThen_ok]
    · cases hr

theorem build_sound {P : Program} {E : Enc U} {st : Nat → Prop} {look : Nat → Option (AObj U)} (hst : ∀ (x : AVal U) v, Rel E w ρ st x v → storable look x = true → v.oneCell' = true) {t : TypeId} {pl : Nat → Option (Nat × Nat)} (hpl : placesOf P t = some pl)
    {z : List (AVal U)} (hz : zeroCells P t = some z) {parts : List (Nat × AVal U)} {parts' : Array (Nat × Value)} (hlen : parts.length = parts'.size)
    (hp : ∀ k (h : k < parts.length) (h' : k < parts'.toList.length), parts[k].1 = parts'.toList[k].1 ∧ Rel E w ρ st parts[k].2 parts'.toList[k].2) {l : List (AVal U)} (hl : afill look pl z parts = some l) :
    ∃ q, (Instr.build t parts').run P w = .ok q w ∧ Rel E w ρ st (.agg l) q := by
  obtain ⟨zv, hzr, hzsz, hzrel⟩ := zeroCells_sound (E := E) (w := w) (ρ := ρ) hz
  unfold placesOf at hpl
  split at hpl
  · rename_i fields hu
    split at hpl
    · rename_i r hr
      obtain rfl := Option.some.inj hpl
      have hma : (fields.mapM fun f => do pure (f.offset, ← sizeOf f.type) : Sem (Array (Nat × Nat))).run P w = .ok r.toArray w := by
        rw [Array.mapM_eq_mapM_toList]
        simp only [Sem.run_map, mapM_places _ w r hr, Result.andThen_ok]
      obtain ⟨c', hfill, hc's, hc'r⟩ := fill_sound (E := E) (w := w) (ρ := ρ) hst (place' := fun i => (r.toArray)[i]?) (fun i q hq => by simpa using hq) parts parts'.toList z l zv.cells (by simpa using hlen) hp hl hzsz (fun k hk => hzrel _ k hk)
      refine ⟨.agg c', ?_, .agg l c' hc's hc'r⟩
      simp only [Instr.build, Sem.run_bind, hzr, Result.andThen_ok, run_underlying hu, hma, hfill, Sem.run_pure]
    · cases hpl
  · rename_i len e hu
    split at hpl
    · rename_i m hm
      obtain rfl := Option.some.inj hpl
      obtain ⟨ti, hti, rfl⟩ := sizeT_spec hm
      obtain ⟨c', hfill, hc's, hc'r⟩ := fill_sound (E := E) (w := w) (ρ := ρ) hst (place' := fun i => some (i * ti.size, ti.size)) (fun i q hq => hq) parts parts'.toList z l zv.cells (by simpa using hlen) hp hl hzsz (fun k hk => hzrel _ k hk)
      refine ⟨.agg c', ?_, .agg l c' hc's hc'r⟩
      simp only [Instr.build, Sem.run_bind, hzr, Result.andThen_ok, run_underlying hu, sizeOf, typeInfo, run_program, hti, Sem.run_pure, hfill]
    · cases hpl
  · cases hpl
end
end Go.Vm
