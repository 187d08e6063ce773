/-
  The head of a loop leaves a state of the frame and the world. Conditions: none.
-/
import Derived.Test.YtohecfbnmmgimaaVmU
namespace Go.Vm
open Go.RowKit
set_option linter.unusedVariables false

section
variable {U : Univ} {E : Enc U} {n : Nat} {N : Nat → Prop} {w0 w w' : World} {ρ ρ' : Nat → Option (Nat × Value)} {s s' : ASt U} {a : Act}

theorem isOwnTmp_mem {own : List (Slot × Nat × U.τ)} {t id : Nat} (h : isOwnTmp own t = some id) : ∃ τ, (.tmp t, id, τ) ∈ own := by
  induction own with
  | nil => cases h
  | cons o own ih =>
    obtain ⟨sl, i, τ⟩ := o
    cases sl with
    | tmp t' =>
      simp only [isOwnTmp] at h
      cases hb : Nat.beq t t' with
      | true =>
        rw [hb] at h
        obtain rfl := Option.some.inj h
        obtain rfl := Nat.eq_of_beq_eq_true hb
        exact ⟨τ, List.mem_cons_self⟩
      | false =>
        rw [hb] at h
        obtain ⟨τ', hm⟩ := ih h
        exact ⟨τ', List.mem_cons_of_mem _ hm⟩
    | cell i' k' =>
      simp only [isOwnTmp] at h
      obtain ⟨τ', hm⟩ := ih h
      exact ⟨τ', List.mem_cons_of_mem _ hm⟩

theorem isOwnCell_mem {own : List (Slot × Nat × U.τ)} {i k id : Nat} (h : isOwnCell own i k = some id) : ∃ τ, (.cell i k, id, τ) ∈ own := by
  induction own with
  | nil => cases h
  | cons o own ih =>
    obtain ⟨sl, j, τ⟩ := o
    cases sl with
    | tmp t' =>
      simp only [isOwnCell] at h
      obtain ⟨τ', hm⟩ := ih h
      exact ⟨τ', List.mem_cons_of_mem _ hm⟩
    | cell i' k' =>
      simp only [isOwnCell] at h
      cases hb : (Nat.beq i i' && Nat.beq k k') with
      | true =>
        rw [hb] at h
        obtain rfl := Option.some.inj h
        simp only [Bool.and_eq_true] at hb
        obtain rfl := Nat.eq_of_beq_eq_true hb.1
        obtain rfl := Nat.eq_of_beq_eq_true hb.2
        exact ⟨τ, List.mem_cons_self⟩
      | false =>
        rw [hb] at h
        obtain ⟨τ', hm⟩ := ih h
        exact ⟨τ', List.mem_cons_of_mem _ hm⟩

theorem cond_beq {α : Type} (u t : Nat) (x y : α) : cond (Nat.beq u t) x y = if u = t then x else y := by
  by_cases h : u = t
  · subst h
    rw [Nat.beq_refl, if_pos rfl]
    rfl
  · rw [nbeq h, if_neg h]
    rfl

theorem keepTmps_spec {own : List (Slot × Nat × U.τ)} {p : Nat → Bool} : ∀ (l : List Nat) (f : Nat → AVal U), keepTmps s own p l = some f →
    ∀ t, f t = .any ∨ (∃ id τ, (.tmp t, id, τ) ∈ own ∧ f t = .osl id 0) ∨ (f t = s.tmps t ∧ okIds p (s.tmps t) = true) := by
  intro l
  induction l with
  | nil =>
    intro f hf t
    obtain rfl := Option.some.inj hf
    exact .inl rfl
  | cons u l ih =>
    intro f hf t
    simp only [keepTmps] at hf
    split at hf
    · rename_i f' hf'
      split at hf
      · rename_i id hid
        obtain rfl := Option.some.inj hf
        simp only [cond_beq]
        by_cases h : t = u
        · subst h
          obtain ⟨τ, hm⟩ := isOwnTmp_mem hid
          exact .inr (.inl ⟨id, τ, hm, by rw [if_pos rfl]⟩)
        · rw [if_neg h]
          exact ih f' hf' t
      · have hfb := cond_some hf
        clear hf
        obtain ⟨hb, hf⟩ := hfb
        obtain rfl := Option.some.inj hf
        simp only [cond_beq]
        by_cases h : t = u
        · subst h
          exact .inr (.inr ⟨by rw [if_pos rfl], hb⟩)
        · rw [if_neg h]
          exact ih f' hf' t
    · cases hf

theorem keepCells_spec {own : List (Slot × Nat × U.τ)} {p : Nat → Bool} : ∀ (l : List Nat) (g : Nat → Option (AObj U)), keepCells s own p l = some g →
    ∀ id ob, g id = some ob → id ∈ l ∧ ∃ cs, s.objs id = some (.cells cs) ∧ ob = .cells (patch own id 0 cs) ∧ patchOk own id p 0 cs = true := by
  intro l
  induction l with
  | nil =>
    intro g hg id ob ho
    obtain rfl := Option.some.inj hg
    cases ho
  | cons i l ih =>
    intro g hg id ob ho
    simp only [keepCells] at hg
    split at hg
    · rename_i g' cs hg' hcs
      have hgb := cond_some hg
      clear hg
      obtain ⟨hb, hg⟩ := hgb
      obtain rfl := Option.some.inj hg
      simp only [cond_beq] at ho
      by_cases h : id = i
      · subst h
        rw [if_pos rfl] at ho
        obtain rfl := Option.some.inj ho
        exact ⟨List.mem_cons_self, cs, hcs, rfl, hb⟩
      · rw [if_neg h] at ho
        obtain ⟨h1, h2⟩ := ih g' hg' id ob ho
        exact ⟨List.mem_cons_of_mem _ h1, h2⟩
    · cases hg

theorem keepCells_all {own : List (Slot × Nat × U.τ)} {p : Nat → Bool} : ∀ (l : List Nat) (g : Nat → Option (AObj U)), keepCells s own p l = some g → ∀ id ∈ l, ∃ ob, g id = some ob := by
  intro l
  induction l with
  | nil => intro g hg id hid; simp at hid
  | cons i l ih =>
    intro g hg id hid
    simp only [keepCells] at hg
    split at hg
    · rename_i g' cs hg' hcs
      have hgb := cond_some hg
      clear hg
      obtain ⟨hb, hg⟩ := hgb
      obtain rfl := Option.some.inj hg
      simp only [cond_beq]
      by_cases h : id = i
      · subst h
        exact ⟨_, by rw [if_pos rfl]⟩
      · rw [if_neg h]
        rcases List.mem_cons.1 hid with e | hid
        · exact absurd e h
        · exact ih g' hg' id hid
    · cases hg

theorem patch_length (own : List (Slot × Nat × U.τ)) (i : Nat) : ∀ (cs : List (AVal U)) (k : Nat), (patch own i k cs).length = cs.length := by
  intro cs
  induction cs with
  | nil => intro k; rfl
  | cons c cs ih => intro k; simp [patch, ih]

theorem patch_get (own : List (Slot × Nat × U.τ)) (i : Nat) : ∀ (cs : List (AVal U)) (k j : Nat) (h : j < cs.length), (patch own i k cs)[j]'(by rw [patch_length]; exact h) = patch1 own i (k + j) cs[j] := by
  intro cs
  induction cs with
  | nil => intro k j h; simp at h
  | cons c cs ih =>
    intro k j h
    cases j with
    | zero => rfl
    | succ j =>
      simp only [patch, List.getElem_cons_succ]
      rw [ih (k + 1) j (by simpa using h), Nat.add_assoc, Nat.add_comm 1 j]

theorem patchOk_get {own : List (Slot × Nat × U.τ)} {i : Nat} {p : Nat → Bool} : ∀ (cs : List (AVal U)) (k : Nat), patchOk own i p k cs = true → ∀ j (h : j < cs.length), isOwnCell own i (k + j) = none → okCell p cs[j] = true := by
  intro cs
  induction cs with
  | nil => intro k _ j h; simp at h
  | cons c cs ih =>
    intro k hk j h hn
    simp only [patchOk, Bool.and_eq_true] at hk
    cases j with
    | zero =>
      rw [Nat.add_zero] at hn
      rw [hn] at hk
      exact hk.1
    | succ j =>
      rw [← Nat.add_assoc, Nat.add_right_comm] at hn
      exact ih (k + 1) hk.2 j (by simpa using h) hn

theorem canon_sound (hR : RR E n N w0 ρ s a w) {m : Canon U} (hc : canon m s = some s') : ∃ ρ', RR E n N w0 ρ' s' a w := by
  unfold canon at hc
  split at hc
  · rename_i f g hf hg
    split at hc
    · rename_i h js hk
      obtain rfl := Option.some.inj hc
      obtain ⟨ρ', P⟩ := keepRows_sound hR (fun id ob ho => by
        obtain ⟨_, cs, h1, _⟩ := keepCells_spec m.cells g hg id ob ho
        exact ⟨cs, h1⟩) m.own h js hk
      have hp : ∀ id q u, (m.cells.any (Nat.beq id)) = true → ρ id = some (q, u) → ρ' id = some (q, u) := fun id q u hid hr => by
        obtain ⟨ob, ho⟩ := keepCells_all m.cells g hg id (any_beq_mem.1 hid)
        rw [(P.old id ob ho).2]
        exact hr
      have hst : ∀ b, Stab N ρ w b → Stab N ρ' w b := fun b ⟨h1, h2, h3⟩ => ⟨h1, h2, fun id q u hr hb => by
        obtain ⟨_, hs⟩ := P.src id q u hr
        rcases hs with ⟨ob, _, hr'⟩ | ⟨_, rfl | ⟨j, _, q0, hr'⟩⟩
        · exact h3 _ _ _ hr' hb
        · cases hb
        · exact h3 _ _ _ hr' hb⟩
      refine ⟨ρ', hR.defers, hR.size, fun t => ?_, fun id ob ho => ?_, fun id q u hr => (P.src id q u hr).1, P.sep, hR.below, hR.nlt⟩
      · rcases keepTmps_spec m.keep f hf t with e | ⟨id, τ, hm, e⟩ | ⟨e, hok⟩
        · show Rel E w ρ' _ (f t) _
          rw [e]
          exact .any _
        · show Rel E w ρ' _ (f t) _
          rw [e]
          obtain ⟨u, h1, h2, h3⟩ := P.slots _ _ _ hm
          rw [show a.tmps.getD t undef = u from h2]
          exact .osl id 0 u h1 h3
        · show Rel E w ρ' _ (f t) _
          rw [e]
          exact okIds_rel hok hp hst (hR.tmps t)
      · rcases P.obs id ob ho with ⟨h1, h2⟩ | ⟨_, τ, xs, u, rfl, h2, h3, cs, h4, h5⟩
        · obtain ⟨_, cs, h3, rfl, h4⟩ := keepCells_spec m.cells g hg id ob h1
          obtain ⟨b, c, ty, h5, h6, h7, h8, h9⟩ := hR.objs _ _ h3
          refine ⟨b, c, ty, by rw [h2]; exact h5, h6, h7, by rw [patch_length]; exact h8, fun k hk => ?_⟩
          have hk' : k < cs.length := by rw [patch_length] at hk; exact hk
          rw [patch_get _ _ _ _ _ hk', Nat.zero_add]
          unfold patch1
          cases hid' : isOwnCell m.own id k with
          | some id' =>
            obtain ⟨τ, hm⟩ := isOwnCell_mem hid'
            obtain ⟨u, h10, ⟨l', b', c', ty', h11, h12, h13, h14, h15⟩, h16⟩ := P.slots _ _ _ hm
            rw [h5] at h12
            simp only [Option.some.injEq, Prod.mk.injEq, true_and, Value.pointer.injEq, Addr.mk.injEq, and_true] at h12
            subst h12
            rw [h7] at h13
            simp only [Option.some.injEq, Obj.cells.injEq] at h13
            obtain ⟨rfl, rfl, _⟩ := h13
            rw [h15]
            exact .osl id' 0 u h10 h16
          | none => exact okCell_rel (patchOk_get cs 0 h4 k hk' (by rw [Nat.zero_add]; exact hid')) hp hst (h9 k hk')
        · refine ⟨u, cs, h2, h3, h4, fun i hi k hk => ?_⟩
          have := h5 i hi k hk
          exact (this.flat (ρ' := ρ') (E.enc_flat τ _ _ (List.getElem_mem hk)).1).mono (fun b hb => ⟨hst b hb, rfl⟩) (fun _ _ _ hr => .inl hr)
    · cases hc
  · cases hc
end
end Go.Vm
