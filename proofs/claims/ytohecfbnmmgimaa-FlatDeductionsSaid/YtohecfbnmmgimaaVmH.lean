/-
  The abstract operations are right: each operation. Conditions: none; lemmas over any program.
-/
import Derived.Test.YtohecfbnmmgimaaVmG
namespace Go.Vm
open Go.RowKit
set_option linter.unusedVariables false

def conj : List Prop → Prop
  | [] => True
  | [p] => p
  | p :: q :: r => p ∧ conj (q :: r)

theorem conj_cons (p : Prop) (l : List Prop) : conj (p :: l) ↔ p ∧ conj l := by
  cases l with
  | nil => simp [conj]
  | cons q r => rfl

theorem conj_iff (l : List Prop) : conj l ↔ ∀ p ∈ l, p := by
  induction l with
  | nil => exact ⟨fun _ p hp => absurd hp List.not_mem_nil, fun _ => trivial⟩
  | cons p l ih => rw [conj_cons, List.forall_mem_cons, ih]

section
variable {U : Univ} {n : Nat} {N : Nat → Prop} {w0 w w' : World} {ρ ρ' : Nat → Option (Nat × Value)} {s : ASt U} {a : Act}

theorem cond_some {α : Type} {b : Bool} {x : Option α} {y : α} (h : cond b x none = some y) : b = true ∧ x = some y := by
  cases b
  · cases h
  · exact ⟨rfl, h⟩

theorem aappend_sound {C : Cfg U} (h : RR C.E n N w0 ρ s a w) {look : Nat → Option (AObj U)} (hlook : ∀ id ob, look id = some ob → s.objs id = some ob) {d : Nat} (hf : look d = none → s.objs d = none)
    {argTypes : Array TypeId} {ty : TypeId} {x y : AVal U} {u v : Value} (hx : Rel C.E w ρ (Stab N ρ w) x u) (hy : Rel C.E w ρ (Stab N ρ w) y v)
    {cs : List Prop} {r : AVal U} {ob : Option (Nat × AObj U)} (ho : aappend C look d argTypes x y = some (cs, r, ob)) (hc : conj cs) :
    ∃ v' w' ρ', (Builtin.append_ argTypes ty #[u, v]).run C.P w = .ok v' w' ∧ RR C.E n N w0 ρ' (s.putObj ob) a w' ∧ Rel C.E w' ρ' (Stab N ρ' w') r v' := by
  unfold aappend at ho
  split at ho
  · rename_i t t' hat
    have hbo := cond_some ho
    clear ho
    obtain ⟨hb, ho⟩ := hbo
    obtain rfl := Nat.eq_of_beq_eq_true hb
    have hargs : argTypes = #[t, t] := by rw [← Array.toArray_toList (xs := argTypes), hat]
    subst hargs
    split at ho
    · rename_i τ hτ
      split at ho
      · rename_i i hi
        split at ho
        · rename_i z hz
          have hbo2 := cond_some ho
          clear ho
          obtain ⟨hb2, ho⟩ := hbo2
          simp only [Bool.and_eq_true] at hb2
          have hzs := Nat.eq_of_beq_eq_true hb2.1
          have hby := Nat.le_of_ble_eq_true hb2.2
          split at ho
          · rename_i ys hys
            have hel := rowOf_sound h hlook hy hys
            split at ho
            · split at ho
              · rename_i hfree
                simp only [Option.some.injEq, Prod.mk.injEq] at ho
                obtain ⟨rfl, rfl, rfl⟩ := ho
                cases hx
                have hbytes : ys.length * i.bytes ≤ 140737488355328 := hc
                have hnone : ρ d = none := by
                  have hfr := h.free (hf hfree)
                  generalize ρ d = q at hfr
                  cases q with
                  | none => rfl
                  | some p => exact (hfr p.1 p.2 rfl).elim
                obtain ⟨v', w', hrun, hR, hp⟩ := append_core (ty := ty) h hτ hi hz hzs hby (id := d) (xs := []) (cs := []) (World.ownsRow_nil _ _ _ _) (fun a e => by cases e) (fun i hi => absurd hi (by simp)) hel
                  (by simpa using hbytes) 0 (.inr ⟨hnone, rfl⟩)
                exact ⟨v', w', _, hrun, by simpa [ASt.putObj] using hR, .osl d 0 v' (by simp [rset]) hp⟩
              · cases ho
            · rename_i id g
              split at ho
              · rename_i xs hxs
                simp only [Option.some.injEq, Prod.mk.injEq] at ho
                obtain ⟨rfl, rfl, rfl⟩ := ho
                have hbytes : (xs.length + ys.length) * i.bytes ≤ 140737488355328 := hc
                unfold rowOf at hxs
                simp only at hxs
                split at hxs
                · rename_i t2 g' zs hl
                  have hbx := cond_some hxs
                  clear hxs
                  obtain ⟨hbb, hxs⟩ := hbx
                  obtain rfl := Nat.eq_of_beq_eq_true hbb
                  obtain ⟨rfl, rfl⟩ := castRow_spec hxs
                  obtain ⟨u1, cs1, h1, hp1, h2, h3, h4⟩ := h.rowElems (hlook _ _ hl)
                  have hu : u1 = u := by
                    cases hx with
                    | osl _ _ u' hr' hp' =>
                      rw [h1] at hr'
                      simp only [Option.some.injEq, Prod.mk.injEq, true_and] at hr'
                      exact hr'
                    | oslOld _ _ g' u' v hr' hg =>
                      rw [h1] at hr'
                      simp only [Option.some.injEq, Prod.mk.injEq] at hr'
                      omega
                  subst hu
                  obtain ⟨v', w', hrun, hR, hp⟩ := append_core (ty := ty) h hτ hi hz hzs hby (id := id) h2 hp1 h4 hel hbytes (g + 1) (.inl ⟨g, h1, by omega⟩)
                  exact ⟨v', w', _, hrun, by simpa [ASt.putObj] using hR, .osl id (g + 1) v' (by simp [rset]) hp⟩
                · cases hxs
              · cases ho
            · cases ho
          · cases ho
        · cases ho
      · cases ho
    · cases ho
  · cases ho

theorem decRows_sound {E : Enc U} {st : Nat → Prop} {t : U.τ} : ∀ (m : Nat) (l : List (AVal U)) (xs : List (U.T t)) (f : Nat → Value), decRows E t m l = some xs →
    (∀ k (h : k < l.length), Rel E w ρ st l[k] (f k)) → xs.length = m ∧ m * U.size t ≤ l.length ∧ ∀ i (h : i < xs.length) k (hk : k < (E.enc t xs[i]).length), Rel E w ρ st (E.enc t xs[i])[k] (f (i * U.size t + k)) := by
  intro m
  induction m with
  | zero =>
    intro l xs f hd _
    simp only [decRows, Option.some.injEq] at hd
    subst hd
    exact ⟨rfl, by simp, fun i h => absurd h (by simp)⟩
  | succ m ih =>
    intro l xs f hd hl
    simp only [decRows] at hd
    split at hd
    · rename_i x xs' hx hxs
      obtain rfl := Option.some.inj hd
      have hlen := E.dec_len t _ _ hx
      have hle : U.size t ≤ l.length := by
        simp only [List.length_take] at hlen
        omega
      obtain ⟨h1, h2, h3⟩ := ih _ _ (fun k => f (U.size t + k)) hxs (fun k h => by
        have h' : U.size t + k < l.length := by simp at h; omega
        have := hl (U.size t + k) h'
        simpa using this)
      refine ⟨by simp [h1], ?_, fun i h k hk => ?_⟩
      · simp only [List.length_drop] at h2
        rw [Nat.add_mul, Nat.one_mul]
        omega
      · cases i with
        | zero =>
          simp only [List.getElem_cons_zero, Nat.zero_mul, Nat.zero_add]
          exact rel_dec hx (f := f) (fun k h => by
            have h' : k < l.length := by simp at h; omega
            have := hl k h'
            simpa using this) k (by simpa using hk)
        | succ i =>
          have := h3 i (by simpa using h) k (by simpa using hk)
          simp only [List.getElem_cons_succ]
          have e : (i + 1) * U.size t + k = U.size t + (i * U.size t + k) := by rw [Nat.add_mul, Nat.one_mul]; omega
          rw [e]
          exact this
    · cases hd

theorem replicate_flatten_get (z : List (AVal U)) : ∀ (m k : Nat), k < m * z.length → ((List.replicate m z).flatten)[k]? = z[k % z.length]? := by
  intro m
  induction m with
  | zero => intro k h; simp at h
  | succ m ih =>
    intro k h
    simp only [List.replicate_succ, List.flatten_cons, List.getElem?_append]
    by_cases hk : k < z.length
    · rw [if_pos hk, Nat.mod_eq_of_lt hk]
    · rw [if_neg hk, ih (k - z.length) (by rw [Nat.add_mul, Nat.one_mul] at h; omega)]
      congr 1
      exact (Nat.mod_eq_sub_mod (by omega)).symm

theorem buildSlice_sound {C : Cfg U} (h : RR C.E n N w0 ρ s a w) {look : Nat → Option (AObj U)} (hlook : ∀ id ob, look id = some ob → s.objs id = some ob) {d : Nat} (hf : s.objs d = none)
    {t : TypeId} {τ : U.τ} (hτ : sliceElt C t = some τ) {z : List (AVal U)} (hz : zeroCells C.P (U.ety τ) = some z) {len : Nat} (hzl : z.length = U.size τ) (hlen : len * U.size τ ≤ 16777216)
    {parts : List (Nat × AVal U)} {parts' : Array (Nat × Value)} (hpl : parts.length = parts'.size)
    (hp : ∀ k (h : k < parts.length) (h' : k < parts'.toList.length), parts[k].1 = parts'.toList[k].1 ∧ Rel C.E w ρ (Stab N ρ w) parts[k].2 parts'.toList[k].2)
    {l : List (AVal U)} (hl : afill look (fun i => some (i * U.size τ, U.size τ)) ((List.replicate len z).flatten) parts = some l) {xs : List (U.T τ)} (hxs : decRows C.E τ len l = some xs) :
    ∃ v' w' ρ', (Instr.buildSlice t len parts').run C.P w = .ok v' w' ∧ RR C.E n N w0 ρ' (s.obj d (.row τ 0 xs)) a w' ∧ Rel C.E w' ρ' (Stab N ρ' w') (.osl d 0) v' := by
  obtain ⟨hu, i, hi, his⟩ := sliceElt_spec hτ
  obtain ⟨zv, hzr, hzsz, hzrel⟩ := zeroCells_sound (E := C.E) (w := w) (ρ := ρ) hz
  have hpos := C.E.pos τ
  -- the zero row
  have hbase : ∃ base : Array Value, base.size = ((List.replicate len z).flatten).length ∧ (∀ k (h : k < ((List.replicate len z).flatten).length), Rel C.E w ρ (Stab N ρ w) ((List.replicate len z).flatten)[k] (base.getD k undef)) ∧
      base = (Array.range (len * U.size τ)).map (fun k => zv.cells[k % zv.cells.size]!) := by
    refine ⟨_, by simp [hzl], fun k hk => ?_, rfl⟩
    have hk' : k < len * z.length := by simpa using hk
    have hkm : k % z.length < z.length := Nat.mod_lt _ (by omega)
    have e1 : ((List.replicate len z).flatten)[k] = z[k % z.length] := by
      have := replicate_flatten_get z len k hk'
      rw [List.getElem?_eq_getElem hk, List.getElem?_eq_getElem hkm] at this
      exact Option.some.inj this
    have e2 : ((Array.range (len * U.size τ)).map (fun k => zv.cells[k % zv.cells.size]!)).getD k undef = zv.cells.getD (k % z.length) undef := by
      have h1 : k < len * U.size τ := by rw [← hzl]; exact hk'
      have h2 : k % z.length < zv.cells.size := by omega
      have h3 : zv.cells[k % z.length]! = zv.cells[k % z.length]'h2 := getElem!_pos zv.cells _ h2
      have h4 : zv.cells[k % z.length]? = some zv.cells[k % z.length] := Array.getElem?_eq_getElem h2
      simp [h1, hzsz, h3, h4]
    rw [e1, e2]
    exact hzrel _ _ hkm
  obtain ⟨base, hbs, hbr, hbe⟩ := hbase
  obtain ⟨c', hfill, hc's, hc'r⟩ := fill_sound (look := look) (place' := fun i => some (i * U.size τ, U.size τ)) (fun x v hx hs => storable_sound h hlook hx hs) (fun i q hq => hq) parts parts'.toList _ l base (by simpa using hpl) hp hl hbs hbr
  obtain ⟨hxl, hle, hxr⟩ := decRows_sound len l xs (fun k => c'.getD k undef) hxs hc'r
  have hll : l.length = len * U.size τ := by
    have : ∀ (ps : List (Nat × AVal U)) (l0 l1 : List (AVal U)), afill look (fun i => some (i * U.size τ, U.size τ)) l0 ps = some l1 → l1.length = l0.length := by
      intro ps
      induction ps with
      | nil => intro l0 l1 h; simp only [afill, Option.some.injEq] at h; rw [h]
      | cons p ps ih =>
        intro l0 l1 h
        obtain ⟨i, x⟩ := p
        simp only [afill] at h
        obtain ⟨_, h⟩ := cond_some h
        rw [ih _ _ h, setCells_length]
    rw [this _ _ _ hl]
    simp [hzl]
  refine ⟨.slice (some ⟨w.heap.size, 0, none⟩) len len, w.alloc (.cells c' (U.ety τ)), rset ρ d 0 (.slice (some ⟨w.heap.size, 0, none⟩) len len), ?_, ?_, .osl d 0 _ (by simp [rset]) (fun a e => by cases e)⟩
  · have h24 : ¬ len * i.size > 2 ^ 24 := by rw [his]; simp; omega
    rw [his] at h24
    by_cases h0 : len * U.size τ = 0
    · have hrow : (Array.range (len * U.size τ)).map (fun k => (#[] : Array Value)[k % (#[] : Array Value).size]!) = base := by
        rw [hbe, h0]
        simp
      simp only [Instr.buildSlice, Sem.run_bind, run_underlying hu, Result.andThen_ok, sizeOf, typeInfo, run_program, hi, Sem.run_pure, his, if_neg h24, if_pos h0, hrow, hfill, newRow, run_newObj]
      rfl
    · rw [hbe] at hfill
      simp only [Instr.buildSlice, Sem.run_bind, run_underlying hu, Result.andThen_ok, sizeOf, typeInfo, run_program, hi, Sem.run_pure, his, if_neg h24, if_neg h0, hzr, hfill, newRow, run_newObj]
      rfl
  · refine h.newRow (fun g u hr => (h.free hf g u hr).elim) (World.grownBy_alloc w _ _) ⟨?_, .inr ⟨w.heap.size, len, c', by rw [hxl], h.below.size, heap_alloc_new w _, by omega, ?_, by rw [hc's, hll], ?_⟩⟩ (fun b hb => ?_) (fun i hi k hk => ?_) (cs := c'.toList)
    · simp [hc's, hll, hxl]
    · unfold maxLen
      have : len * 1 ≤ len * U.size τ := Nat.mul_le_mul_left _ hpos
      omega
    · rw [hxl]
      exact List.take_of_length_le (by simp; omega)
    · simp only [blk, Option.some.injEq] at hb
      exact .inr (by omega)
    · have := hxr i hi k hk
      simpa using this
end
end Go.Vm
