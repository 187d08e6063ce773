/-
  Arguments that came in: their leaves, their slices, as abstract values. Conditions: none; lemmas over any program.
-/
import Derived.Test.YtohecfbnmmgimaaVmY
import Derived.Deep.Slices
namespace Go.Vm
open Go.RowKit Go.ChangeShapes Go.WideShapes Go.ChangeAt Go.Deep
set_option linter.unusedVariables false

section
variable {P : Program}

/-- Kinds of leaves that are opened here. -/
def leafKind (P : Program) (t : TypeId) : Bool :=
  match P.underlying t with
  | some (.int _) | some .bool | some .string | some (.slice _) => true
  | _ => false

def fieldsOK (P : Program) (ok : TypeId → Bool) (len : TypeId → Nat) : List Field → Nat → Nat → Bool
  | [], off, tot => Nat.beq off tot
  | f :: fs, off, tot => Nat.beq f.offset off && Nat.beq (P.cellsOf f.type) (len f.type) && ok f.type && fieldsOK P ok len fs (off + P.cellsOf f.type) tot

/-- A type of structs all the way down to the leaves, laid out one behind another. -/
def flatOK (P : Program) : Nat → TypeId → Bool
  | 0, t => leafKind P t
  | d + 1, t => match P.underlying t with
    | some (.struct fields) => fieldsOK P (flatOK P d) (fun t => (leafTys P d t).length) fields.toList 0 (P.cellsOf t)
    | some (.array _ _) => false
    | _ => leafKind P t

variable {H : Type} {enc : TypeId × Value → H} {w : World} {base : Nat} {sp : Nat → Bool} {held : Bool}

theorem trod_leaf {t : TypeId} {fuel : Nat} {cs : List Value} {x : DataW H × List MemPlace} (hk : leafKind P t = true) (h : DataW.trod enc P w base sp held fuel t cs = some x) :
    cs.length = 1 ∧ ∃ fuel' y, DataW.trod enc P w base sp held fuel' t [cs.getD 0 undef] = some y := by
  have h' := h
  unfold leafKind at hk
  cases fuel with
  | zero => cases h
  | succ fuel =>
    unfold DataW.trod at h
    split at h <;> first
      | exact ⟨rfl, _, _, h'⟩
      | (rename_i heq; rw [heq] at hk; cases hk)
      | cases h

theorem trod_fields {d fuel : Nat} {cs : List Value} {tot : Nat} (hlen : cs.length = tot)
    (ih : ∀ (t : TypeId) (cs : List Value) (x : DataW H × List MemPlace), flatOK P d t = true → DataW.trod enc P w base sp held fuel t cs = some x →
      cs.length = (leafTys P d t).length ∧ ∀ i (h : i < (leafTys P d t).length), ∃ fuel' y, DataW.trod enc P w base sp held fuel' ((leafTys P d t)[i]) [cs.getD i undef] = some y) :
    ∀ (fs : List Field) (off : Nat), fieldsOK P (flatOK P d) (fun t => (leafTys P d t).length) fs off tot = true →
      (∀ f ∈ fs, ∃ y, DataW.trod enc P w base sp held fuel f.type ((cs.drop f.offset).take (P.cellsOf f.type)) = some y) →
      off + (fs.flatMap fun f => leafTys P d f.type).length = tot ∧ ∀ i (h : i < (fs.flatMap fun f => leafTys P d f.type).length), ∃ fuel' y, DataW.trod enc P w base sp held fuel' ((fs.flatMap fun f => leafTys P d f.type)[i]) [cs.getD (off + i) undef] = some y := by
  intro fs
  induction fs with
  | nil =>
    intro off hok _
    exact ⟨by simpa [fieldsOK] using hok, fun i h => absurd h (by simp)⟩
  | cons f fs ihf =>
    intro off hok hall
    simp only [fieldsOK, Bool.and_eq_true] at hok
    obtain ⟨⟨⟨h1, h2⟩, h3⟩, h4⟩ := hok
    have h1' := Nat.eq_of_beq_eq_true h1
    have h2' := Nat.eq_of_beq_eq_true h2
    obtain ⟨y, hy⟩ := hall f (by simp)
    obtain ⟨e1, e2⟩ := ih f.type _ y h3 hy
    obtain ⟨e3, e4⟩ := ihf (off + P.cellsOf f.type) h4 (fun g hg => hall g (by simp [hg]))
    simp only [List.flatMap_cons, List.length_append]
    refine ⟨by omega, fun i hi => ?_⟩
    by_cases hlt : i < (leafTys P d f.type).length
    · obtain ⟨f', y', hy'⟩ := e2 i hlt
      refine ⟨f', y', ?_⟩
      have hg : ((cs.drop f.offset).take (P.cellsOf f.type)).getD i undef = cs.getD (off + i) undef := by
        simp only [List.getD_eq_getElem?_getD, List.getElem?_take, List.getElem?_drop]
        rw [if_pos (by omega), h1']
      rw [hg] at hy'
      rw [List.getElem_append_left hlt]
      exact hy'
    · have hr : i - (leafTys P d f.type).length < (fs.flatMap fun f => leafTys P d f.type).length := by
        omega
      obtain ⟨f', y', hy'⟩ := e4 _ hr
      refine ⟨f', y', ?_⟩
      rw [List.getElem_append_right (by omega)]
      have e : off + P.cellsOf f.type + (i - (leafTys P d f.type).length) = off + i := by omega
      rw [e] at hy'
      exact hy'

theorem mapM_mem {α β : Type} {f : α → Option β} : ∀ {l : List α} {ys : List β}, l.mapM f = some ys → ∀ a ∈ l, ∃ y, f a = some y := by
  intro l
  induction l with
  | nil => intro ys _ a ha; cases ha
  | cons x l ih =>
    intro ys h a ha
    rw [List.mapM_cons] at h
    obtain ⟨y, hy, h⟩ := Option.bind_eq_some_iff.1 h
    obtain ⟨zs, hzs, h⟩ := Option.bind_eq_some_iff.1 h
    rcases List.mem_cons.1 ha with rfl | ha
    · exact ⟨y, hy⟩
    · exact ih hzs a ha

/-- The leaves of what was read. -/
theorem trod_leaves : ∀ (d : Nat) (t : TypeId) (fuel : Nat) (cs : List Value) (x : DataW H × List MemPlace), flatOK P d t = true → DataW.trod enc P w base sp held fuel t cs = some x →
    cs.length = (leafTys P d t).length ∧ ∀ i (h : i < (leafTys P d t).length), ∃ fuel' y, DataW.trod enc P w base sp held fuel' ((leafTys P d t)[i]) [cs.getD i undef] = some y := by
  have leaf : ∀ {t : TypeId} {fuel : Nat} {cs : List Value} {x : DataW H × List MemPlace} {l : List TypeId}, l = [t] → leafKind P t = true → DataW.trod enc P w base sp held fuel t cs = some x →
      cs.length = l.length ∧ ∀ i (h : i < l.length), ∃ fuel' y, DataW.trod enc P w base sp held fuel' (l[i]) [cs.getD i undef] = some y := fun {t fuel cs x l} hl hk h => by
    subst hl
    obtain ⟨h1, h2⟩ := trod_leaf hk h
    refine ⟨h1, fun i hi => ?_⟩
    have : i = 0 := by simpa using hi
    subst this
    exact h2
  intro d
  induction d with
  | zero =>
    intro t fuel cs x hok h
    exact leaf rfl hok h
  | succ d ih =>
    intro t fuel cs x hok h
    unfold flatOK at hok
    split at hok
    · rename_i fields hu
      have hl : leafTys P (d + 1) t = fields.toList.flatMap fun f => leafTys P d f.type := by
        simp only [leafTys, hu]
      rw [hl]
      cases fuel with
      | zero => cases h
      | succ fuel =>
        simp only [DataW.trod, hu] at h
        split at h
        · rename_i hlen
          obtain ⟨ys, hys, _⟩ := Option.map_eq_some_iff.1 h
          have := trod_fields (cs := cs) hlen (fun t cs x => ih t fuel cs x) fields.toList 0 hok (fun f hf => mapM_mem hys f hf)
          refine ⟨by omega, fun i hi => ?_⟩
          have := this.2 i hi
          rwa [Nat.zero_add] at this
        · cases h
    · cases hok
    · rename_i hne hna
      refine leaf ?_ hok h
      unfold leafTys
      split
      · rename_i fs hu
        exact absurd hu (hne fs)
      · rename_i m e hu
        exact absurd hu (hna m e)
      · rfl

/-- Numbers, all of them. -/
theorem trod_ints {d : Nat} {t : TypeId} {fuel : Nat} {cs : List Value} {x : DataW H × List MemPlace} (hok : flatOK P d t = true) (hint : (leafTys P d t).all (fun u => match P.underlying u with | some (.int .i64) => true | _ => false) = true)
    (h : DataW.trod enc P w base sp held fuel t cs = some x) : ∃ ns : List Int, ns.length = (leafTys P d t).length ∧ cs = ns.map (Value.int .i64) := by
  obtain ⟨h1, h2⟩ := trod_leaves d t fuel cs x hok h
  refine ⟨cs.map intAt, by simp [h1], ?_⟩
  apply List.ext_getElem
  · simp
  · intro i hi hi'
    obtain ⟨f', y, hy⟩ := h2 i (by omega)
    have h3 := List.all_eq_true.1 hint _ (List.getElem_mem (show i < (leafTys P d t).length by omega))
    split at h3
    · rename_i hu
      obtain ⟨n, hn, _⟩ := DataW.trod_int hu hy
      have hg : cs.getD i undef = cs[i] := by simp [hi]
      rw [hg] at hn
      simp only [List.cons.injEq, and_true] at hn
      simp [hn, intAt]
    · cases h3

variable {U : Univ} {C : Cfg U}

/-- An abstract value of a leaf's type. -/
def Fits (C : Cfg U) (u : TypeId) (a : AVal U) : Prop :=
  match C.P.underlying u with
  | some (.int k) => ∃ n, a = .int k n ∧ k.has n
  | some .bool => ∃ b, a = .bool b
  | some .string => ∃ s, a = .str s ∧ (s.size : Int) ≤ 9223372036854775807
  | some (.slice e) => ∃ τ xs, C.elt e = some τ ∧ a = .sl τ xs ∧ (xs.length : Int) ≤ 9223372036854775807
  | _ => False

/-- The elements of a kind, from what was read. -/
def Opens (C : Cfg U) (enc : TypeId × Value → H) (w : World) (e : TypeId) (τ : U.τ) : Prop :=
  C.P.cellsOf e = U.size τ ∧ ∀ n cs y, DataW.trod enc C.P w 0 (fun _ => true) true n e cs = some y → ∃ z : U.T τ, ∀ k (hk : k < (C.E.enc τ z).length), Rel C.E w noOwn (Out' (fun _ => False) w) (C.E.enc τ z)[k] (cs.getD k undef)

theorem opens_ints {e : TypeId} {τ : U.τ} (d : Nat) (hs : C.P.cellsOf e = U.size τ) (hok : flatOK C.P d e = true) (hint : (leafTys C.P d e).all (fun u => match C.P.underlying u with | some (.int .i64) => true | _ => false) = true) (hl : (leafTys C.P d e).length = U.size τ)
    (hz : ∀ ns : List Int, ns.length = U.size τ → ∃ z, C.E.enc τ z = ns.map (AVal.int .i64)) : Opens C enc w e τ := by
  refine ⟨hs, fun n cs y h => ?_⟩
  obtain ⟨ns, h1, rfl⟩ := trod_ints hok hint h
  obtain ⟨z, h2⟩ := hz ns (by omega)
  refine ⟨z, fun k hk => ?_⟩
  have hk' : k < ns.length := by rw [h2] at hk; simpa using hk
  simp only [h2]
  simpa [hk'] using Rel.int _ _

theorem leaf_rel {u : TypeId} {v : Value} {b0 fuel : Nat} {y : DataW H × List MemPlace} (hE : ∀ e, C.P.underlying u = some (.slice e) → ∃ τ, C.elt e = some τ ∧ Opens C enc w e τ)
    (hk : leafKind C.P u = true) (hok : Cell.okWide C.P w .any b0 u v) (h : DataW.trod enc C.P w 0 (fun _ => true) true fuel u [v] = some y) :
    ∃ a, Fits C u a ∧ Rel C.E w noOwn (Out' (fun _ => False) w) a v := by
  unfold leafKind at hk
  unfold Fits
  split at hk
  · rename_i k hu
    obtain ⟨h1, h2⟩ := cell_int hu hok
    exact ⟨.int k (intAt v), ⟨_, rfl, by simpa using h2⟩, by rw [h1]; exact .int _ _⟩
  · rename_i hu
    unfold Cell.okWide Cell.ok at hok
    rw [hu] at hok
    cases v <;> first | exact ⟨.bool _, ⟨_, rfl⟩, .bool _⟩ | exact hok.elim
  · rename_i hu
    unfold Cell.okWide Cell.ok at hok
    rw [hu] at hok
    cases v <;> first | exact ⟨.str _, ⟨_, rfl, hok⟩, .str _⟩ | exact hok.elim
  · rename_i e hu
    obtain ⟨τ, hτ, hs, hel⟩ := hE e hu
    rcases open_slice hu h with ⟨h1, _⟩ | ⟨a, len, cap, m, n, D, Pl, h1, hb, hl, hm, hmm, hx, hall⟩
    · simp only [List.cons.injEq, and_true] at h1
      subst h1
      exact ⟨.sl τ [], ⟨τ, [], hτ, rfl, by simp⟩, .sl0 τ⟩
    · simp only [List.cons.injEq, and_true] at h1
      subst h1
      have hmc : m = cap := by simpa using hmm
      subst hmc
      have hhas : w.has C.P .any b0 a e m := by
        unfold Cell.okWide Cell.ok at hok
        rw [hu] at hok
        exact hok.2.2
      obtain ⟨_, hspot, row, cells, hsh, _⟩ := hhas
      obtain ⟨b, o, spot⟩ := a
      simp only at hspot
      subst hspot
      have hblk : b < w.heap.size := by
        unfold World.shape? at hsh
        rcases Nat.lt_or_ge b w.heap.size with h | h
        · exact h
        · simp [Array.getElem?_eq_none h] at hsh
      obtain ⟨Z, hZ⟩ := choose_lt (α := Option (U.T τ) × List Value) (n := len) (p := fun i z => ∃ q, z.1 = some q ∧ w.cells? 0 (Addr.add ⟨b, o, none⟩ (i * C.P.cellsOf e)) (C.P.cellsOf e) = some z.2 ∧ ∀ k (hk : k < (C.E.enc τ q).length), Rel C.E w noOwn (Out' (fun _ => False) w) (C.E.enc τ q)[k] (z.2.getD k undef)) (fun i hi => by
        obtain ⟨cs', h3, h4⟩ := hall i (by omega)
        obtain ⟨z, hz⟩ := hel n cs' _ h4
        exact ⟨(some z, cs'), z, rfl, h3, hz⟩)
      have hxs : ∃ xs : List (U.T τ), xs.length = len ∧ ∀ i (h : i < xs.length), (Z i).1 = some xs[i] := by
        have : ∀ j, j ≤ len → ∃ xs : List (U.T τ), xs.length = j ∧ ∀ i (h : i < xs.length), (Z i).1 = some xs[i] := by
          intro j
          induction j with
          | zero => intro _; exact ⟨[], rfl, fun i h => absurd h (by simp)⟩
          | succ j ihj =>
            intro hj
            obtain ⟨xs, e1, e2⟩ := ihj (by omega)
            obtain ⟨q, hq, _⟩ := hZ j (by omega)
            refine ⟨xs ++ [q], by simp [e1], fun i hi => ?_⟩
            by_cases hij : i < xs.length
            · rw [List.getElem_append_left hij]
              exact e2 i hij
            · have : i = j := by simp at hi; omega
              subst this
              simp [e1, hq]
        exact this len (Nat.le_refl _)
      obtain ⟨xs, e1, e2⟩ := hxs
      have hrel : ∀ i (h : i < xs.length) k (hk : k < (C.E.enc τ xs[i]).length), w.cell? ⟨b, o + (i * U.size τ + k), none⟩ = some ((Z i).2.getD k undef) ∧ Rel C.E w noOwn (Out' (fun _ => False) w) (C.E.enc τ xs[i])[k] ((Z i).2.getD k undef) := by
        intro i hi k hk
        obtain ⟨q, hq, h3, h4⟩ := hZ i (by omega)
        have hqx : q = xs[i] := by
          have := e2 i hi
          rw [hq] at this
          exact Option.some.inj this
        subst hqx
        refine ⟨?_, h4 k hk⟩
        obtain ⟨_, hlen, hcell⟩ := World.cells?_some h3
        have hk' : k < U.size τ := by rw [C.E.enc_len] at hk; exact hk
        have := hcell k (by rw [hs]; exact hk')
        rw [Addr.add_at, Addr.add_at, hs] at this
        rw [← Nat.add_assoc]
        rw [this]
        have hkl : k < (Z i).2.length := by rw [hlen, hs]; exact hk'
        simp [hkl]
      have hpos := C.E.pos τ
      refine ⟨.sl τ xs, ⟨τ, xs, hτ, rfl, ?_⟩, ?_⟩
      · have : m ≤ maxLen := hm
        unfold maxLen at this
        omega
      · have := Rel.sl (E := C.E) (w := w) (ρ := noOwn) (st := Out' (fun _ => False) w) τ xs b o m (fun j => (Z (j / U.size τ)).2.getD (j % U.size τ) undef) ⟨hblk, fun h => h⟩ (by omega) (fun j hj => by
          have h5 : j / U.size τ < xs.length := Nat.div_lt_of_lt_mul (by rw [Nat.mul_comm]; exact hj)
          have h6 : j % U.size τ < U.size τ := Nat.mod_lt _ hpos
          have := (hrel (j / U.size τ) h5 (j % U.size τ) (by rw [C.E.enc_len]; exact h6)).1
          have h7 : j / U.size τ * U.size τ + j % U.size τ = j := by rw [Nat.mul_comm]; exact Nat.div_add_mod j _
          rw [h7] at this
          exact this) (fun i hi k hk => by
          have hk' : k < U.size τ := by rw [C.E.enc_len] at hk; exact hk
          have h7 : (i * U.size τ + k) / U.size τ = i := by
            rw [Nat.mul_comm, Nat.mul_add_div hpos, Nat.div_eq_of_lt hk', Nat.add_zero]
          have h8 : (i * U.size τ + k) % U.size τ = k := by
            rw [Nat.mul_comm, Nat.mul_add_mod, Nat.mod_eq_of_lt hk']
          simp only [h7, h8]
          exact (hrel i hi k hk).2)
        rw [e1] at this
        exact this
  · cases hk

/-- A struct that came in: its leaves as abstract values. -/
theorem open_agg {t : TypeId} {v : Value} {b0 d : Nat} {x : DataW H} {ps : List MemPlace} 
    (hE : ∀ u ∈ leafTys C.P d t, leafKind C.P u = true ∧ ∀ e, C.P.underlying u = some (.slice e) → ∃ τ, C.elt e = some τ ∧ Opens C enc w e τ) (hs : isAggT C.P t = true) (hts : C.P.cellTypes C.P.depth t = some (leafTys C.P d t)) (hflat : flatOK C.P d t = true)
    (hok : Value.okWide C.P w .any b0 t v) (h : DataW.Trod enc C.P w 0 (fun _ => true) true t v x ps) :
    ∃ as : List (AVal U), as.length = (leafTys C.P d t).length ∧ (∀ i (h : i < as.length) (h' : i < (leafTys C.P d t).length), Fits C (leafTys C.P d t)[i] as[i]) ∧ Rel C.E w noOwn (Out' (fun _ => False) w) (.agg as) v := by
  have hv : ∃ cs, v = .agg cs ∧ Row.okWide C.P w .any b0 t cs := by
    unfold isAggT at hs
    unfold Value.okWide at hok
    split at hs
    · rename_i fs hu
      rw [hu] at hok
      obtain ⟨cs, rfl, _, hrow⟩ := hok
      exact ⟨cs, rfl, hrow⟩
    · rename_i n e hu
      rw [hu] at hok
      obtain ⟨cs, rfl, _, hrow⟩ := hok
      exact ⟨cs, rfl, hrow⟩
    · cases hs
  obtain ⟨cs, rfl, ts', h1, _, hcell⟩ := hv
  rw [hts] at h1
  obtain rfl := Option.some.inj h1
  obtain ⟨fuel, hf⟩ := h
  obtain ⟨hlen, hleaf⟩ := trod_leaves d t fuel _ _ hflat hf
  have hlen' : cs.size = (leafTys C.P d t).length := by simpa [Value.cells] using hlen
  have key : ∀ j, j ≤ cs.size → ∃ as : List (AVal U), as.length = j ∧ ∀ i (h : i < as.length) (h' : i < (leafTys C.P d t).length), Fits C (leafTys C.P d t)[i] as[i] ∧ Rel C.E w noOwn (Out' (fun _ => False) w) as[i] (cs.getD i undef) := by
    intro j
    induction j with
    | zero => intro _; exact ⟨[], rfl, fun i h => absurd h (by simp)⟩
    | succ j ih =>
      intro hj
      obtain ⟨as, e1, e2⟩ := ih (by omega)
      have hjl : j < (leafTys C.P d t).length := by omega
      obtain ⟨f', y, hy⟩ := hleaf j hjl
      have hjc : j < cs.size := by omega
      have hg : (Value.agg cs).cells.toList.getD j undef = cs[j] := by simp [Value.cells, hjc]
      rw [hg] at hy
      obtain ⟨u, hu, hcok⟩ := hcell j cs[j] (by simp [hjc])
      rw [Nat.mod_eq_of_lt hjl, List.getElem?_eq_getElem hjl] at hu
      obtain rfl := Option.some.inj hu
      obtain ⟨hk, hE'⟩ := hE _ (List.getElem_mem hjl)
      obtain ⟨a, ha, hr⟩ := leaf_rel hE' hk hcok hy
      refine ⟨as ++ [a], by simp [e1], fun i hi hi' => ?_⟩
      by_cases hij : i < as.length
      · rw [List.getElem_append_left hij]
        exact e2 i hij hi'
      · have : i = j := by simp at hi; omega
        subst this
        have hgd : cs.getD i undef = cs[i] := by simp [hjc]
        simp only [hgd]
        simp [e1]
        exact ⟨ha, hr⟩
  obtain ⟨as, e1, e2⟩ := key cs.size (Nat.le_refl _)
  exact ⟨as, by omega, fun i h h' => (e2 i h h').1, .agg as cs e1.symm (fun k hk => (e2 k hk (by omega)).2)⟩

/-- A law's walk, with memory that came in. -/
theorem law_callsM {M : Nat → Canon U} {fuel : Nat} (hs : SumOK C) (hmix : C.P.follows .mixedOrders = true) {f : FuncId} {fn : Func} {c : Code} (hf : C.P.funcs[f]? = some fn) (hb : fn.body = some c) {args : Array Value} {xs : List (AVal U)} {w : World} (hinv : C.inv w)
    (hargs : RelArgs C.E w (fun _ => False) xs args) (hlen : Nat.ble xs.length fn.ntmps = true) (h : Done (exec C fn.ntmps M fuel 0 c (initSt xs) (AEnds C fn fun r => r = .bool true))) :
    Calls C.P f args w fun e w' => e = .returned (.bool true) ∧ Below w.heap.size w w' := by
  refine (calls_of_exec hs hinv hmix hf hb (fun _ h => h.elim) hargs (Nat.le_of_ble_eq_true hlen) h.out).mono ?_
  rintro e w' ⟨v, rfl, ⟨r, rfl, hr⟩, hbw⟩
  cases hr
  exact ⟨rfl, hbw⟩
end
end Go.Vm
