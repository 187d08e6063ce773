/- Texts of this proof, one behind another: DERIVED: THE SHELF's CONTRACTS AT THIS DUMP, IN PLAIN WORDS (tools/lay-plain.mjs out of 'T; The numbers of a list in order, each once. Conditions: none.; Tables of a grid, the way in which a cell's neighbours are met, and the parts into which l; What pieces of code must make hold, in plain Lean; printed by gen.py. Conditions: none; de; program.Separate: the parts into which lines separate a sheet. Conditions: the lines are a; What pieces of code must make hold, in plain Lean; printed by gen.py. Conditions: none; de; Sheets: what the two ValidateSheets return is the same. Conditions: none.; ref08.Separate: the parts into which lines separate a sheet, in the reference's way. Condi; What pieces of code must make hold, in plain Lean; printed by gen.py. Conditions: none; de; Whether two lists of rectangles, or of parts, are the same. Conditions: lists of at most 1; What pieces of code must make hold, in plain Lean; printed by gen.py. Conditions: none; de; Whether two lists of parts are the same. Conditions: lists of at most 1,000,000.; What pieces of code must make hold, in plain Lean; printed by gen.py. Conditions: none; de; The law ProgramSeparates, in plain words. Conditions: none.; That the code says what the printed pieces say, by the kernel; printed by gen.py. Conditio; That the code says what the printed pieces say, by the kernel; printed by gen.py. Conditio; That the code says what the printed pieces say, by the kernel; printed by gen.py. Conditio; That the code says what . Conditions: none. -/
import Derived.Shelf.Sort.Plain
import Derived.Ground.Names2Prog
import Derived.Shelf.Slices.CompactI
import Derived.Shelf.Slices.In.SortNone
import Derived.Test.YteffpgliiilnjaaGreatDoorProg
import Derived.Test.YteffpgliiilnjaaGreatDoorMS4
import Derived.Lib.OwnBridge
namespace Go.Proofs
open Go.Shelf
def Tryz.lays189_ren : Go.Shelf.Ren := ⟨fun | 189 => 164 | 125 => 139 | 257 => 204 | 128 => 182 | 129 => 183 | 294 => 225 | 295 => 226 | 296 => 227 | 297 => 228 | 298 => 229 | 299 => 230 | 216 => 167 | 300 => 231 | 301 => 232 | 328 => 243 | 329 => 209 | 330 => 210 | 331 => 244 | 332 => 245 | 215 => 184 | 343 => 248 | n => n, fun | 28 => 124 | 3 => 3 | 46 => 184 | 0 => 0 | 51 => 265 | 53 => 267 | 4 => 4 | 183 => 259 | 182 => 258 | 131 => 193 | 5 => 5 | 9 => 9 | 218 => 285 | 222 => 289 | 228 => 310 | 229 => 105 | n => n, fun | n => n⟩
theorem Tryz.lays189 : Go.Proofs.Lays.n189 Tryz.prog Tryz.lays189_ren := {
 mixed := by kernel_rfl
 f125 := Tryz.func139.trans (congrArg some (by kernel_rfl))
 f128 := Tryz.func182.trans (congrArg some (by kernel_rfl))
 f129 := Tryz.func183.trans (congrArg some (by kernel_rfl))
 f189 := Tryz.func164.trans (congrArg some (by kernel_rfl))
 f215 := Tryz.func184.trans (congrArg some (by kernel_rfl))
 f216 := Tryz.func167.trans (congrArg some (by kernel_rfl))
 f257 := Tryz.func204.trans (congrArg some (by kernel_rfl))
 f294 := Tryz.func225.trans (congrArg some (by kernel_rfl))
 f295 := Tryz.func226.trans (congrArg some (by kernel_rfl))
 f296 := Tryz.func227.trans (congrArg some (by kernel_rfl))
 f297 := Tryz.func228.trans (congrArg some (by kernel_rfl))
 f298 := Tryz.func229.trans (congrArg some (by kernel_rfl))
 f299 := Tryz.func230.trans (congrArg some (by kernel_rfl))
 f300 := Tryz.func231.trans (congrArg some (by kernel_rfl))
 f301 := Tryz.func232.trans (congrArg some (by kernel_rfl))
 f328 := Tryz.func243.trans (congrArg some (by kernel_rfl))
 f329 := Tryz.func209.trans (congrArg some (by kernel_rfl))
 f330 := Tryz.func210.trans (congrArg some (by kernel_rfl))
 f331 := Tryz.func244.trans (congrArg some (by kernel_rfl))
 f332 := Tryz.func245.trans (congrArg some (by kernel_rfl))
 f343 := Tryz.func248.trans (congrArg some (by kernel_rfl))
 t0 := Tryz.underlying0
 a0 := Tryz.isAgg0
 z0 := Tryz.sizeOf0
 v0 := Tryz.zeroValue0
 t3 := Tryz.underlying3
 a3 := Tryz.isAgg3
 z3 := Tryz.sizeOf3
 v3 := Tryz.zeroValue3
 t4 := Tryz.underlying4
 a4 := Tryz.isAgg4
 z4 := Tryz.sizeOf4
 v4 := Tryz.zeroValue4
 t5 := Tryz.underlying5
 a5 := Tryz.isAgg5
 z5 := Tryz.sizeOf5
 v5 := Tryz.zeroValue5
 t9 := Tryz.underlying9
 a9 := Tryz.isAgg9
 z9 := Tryz.sizeOf9
 v9 := Tryz.zeroValue9
 t28 := Tryz.underlying124
 a28 := Tryz.isAgg124
 z28 := Tryz.sizeOf124
 v28 := Tryz.zeroValue124
 t46 := Tryz.underlying184
 a46 := Tryz.isAgg184
 z46 := Tryz.sizeOf184
 v46 := Tryz.zeroValue184
 t51 := Tryz.underlying265
 a51 := Tryz.isAgg265
 z51 := Tryz.sizeOf265
 v51 := Tryz.zeroValue265
 t53 := Tryz.underlying267
 a53 := Tryz.isAgg267
 z53 := Tryz.sizeOf267
 v53 := Tryz.zeroValue267
 t131 := Tryz.underlying193
 a131 := Tryz.isAgg193
 z131 := Tryz.sizeOf193
 v131 := Tryz.zeroValue193
 t182 := Tryz.underlying258
 a182 := Tryz.isAgg258
 z182 := Tryz.sizeOf258
 v182 := Tryz.zeroValue258
 t183 := Tryz.underlying259
 a183 := Tryz.isAgg259
 z183 := Tryz.sizeOf259
 v183 := Tryz.zeroValue259
 t218 := Tryz.underlying285
 a218 := Tryz.isAgg285
 z218 := Tryz.sizeOf285
 v218 := Tryz.zeroValue285
 t222 := Tryz.underlying289
 a222 := Tryz.isAgg289
 z222 := Tryz.sizeOf289
 v222 := Tryz.zeroValue289
 t228 := Tryz.underlying310
 a228 := Tryz.isAgg310
 z228 := Tryz.sizeOf310
 v228 := Tryz.zeroValue310
 t229 := Tryz.underlying105
 a229 := Tryz.isAgg105
 z229 := Tryz.sizeOf105
 v229 := Tryz.zeroValue105 }
open Go.Sort Go.RowKit in
theorem Tryz.slices_Sort_int (blk off cap : Nat) (zs : List Int) (w : World) (hH : Holds (Value.int .i64) w blk off zs.toArray) (hblk : blk < w.heap.size) (hsz : zs.length < 4611686018427387904) :
  Calls Tryz.prog 164 #[.slice (some ⟨blk, off, none⟩) zs.length cap] w fun e w' =>
   e = .returned (.tuple #[]) ∧ ∃ n os, w' = grow (putRow (Value.int .i64) (Sort.ahead w n) blk off (zs.mergeSort fun x y => decide (x ≤ y)).toArray) os := Any.slices_Sort_int Tryz.lays189 blk off cap zs w hH hblk hsz
def Tryz.laysNm220_ren : Go.Shelf.Ren := ⟨fun | 20 => 165 | n => n, fun | 22 => 124 | 3 => 3 | 4 => 4 | 0 => 0 | n => n, fun | n => n⟩
theorem Tryz.laysNm220 : Go.Proofs.Lays2.n20 Tryz.prog Tryz.laysNm220_ren := {
 mixed := by kernel_rfl
 f20 := Tryz.func165.trans (congrArg some (by kernel_rfl))
 t0 := Tryz.underlying0
 a0 := Tryz.isAgg0
 z0 := Tryz.sizeOf0
 v0 := Tryz.zeroValue0
 t3 := Tryz.underlying3
 a3 := Tryz.isAgg3
 z3 := Tryz.sizeOf3
 v3 := Tryz.zeroValue3
 t4 := Tryz.underlying4
 a4 := Tryz.isAgg4
 z4 := Tryz.sizeOf4
 v4 := Tryz.zeroValue4
 t22 := Tryz.underlying124
 a22 := Tryz.isAgg124
 z22 := Tryz.sizeOf124
 v22 := Tryz.zeroValue124
 i3 := by kernel_rfl }
open Go.RowKit Go.Lib Go.Sort in
theorem Tryz.slices_Compact_int (blk off cap : Nat) (zs : List Int) (w : World) (hH : Holds (Value.int .i64) w blk off zs.toArray) (hsz : zs.length ≤ 9223372036854775807) (hcap : zs.length ≤ cap) :
  Calls Tryz.prog 165 #[.slice (some ⟨blk, off, none⟩) zs.length cap] w fun e w' => e = .returned (.slice (some ⟨blk, off, none⟩) (Lib.compact zs).length cap) ∧ ∃ q, w' = putRow (Value.int .i64) (Sort.ahead w q) blk off (Lib.compact zs ++ List.replicate (zs.length - (Lib.compact zs).length) 0).toArray := Any.slices_Compact_int Tryz.laysNm220 blk off cap zs w hH hsz hcap
open Go.RowKit Go.Lib Go.Sort in
theorem Tryz.slices_Compact_int_empty (a : Option Addr) (cap : Nat) (w : World) :
  Calls Tryz.prog 165 #[.slice a 0 cap] w fun e w' => e = .returned (.slice a 0 cap) ∧ w' = w := Any.slices_Compact_int_empty Tryz.laysNm220 a cap w
open Go.RowKit Go.Sort in
theorem Tryz.slices_Sort_int_none (p : Option Addr) (cap : Nat) (w : World) :
  Calls Tryz.prog 164 #[.slice p 0 cap] w fun e w' => e = .returned (.tuple #[]) ∧ w' = w := Any.slices_Sort_int_none Tryz.lays189 p cap w
end Go.Proofs
namespace Go.Proofs.YteffpgliiilnjaaGreatDoor
open Go.Vm Go.RowKit
set_option linter.unusedVariables false
noncomputable section
def asc (l : zzI) : Prop := l.Pairwise (· < ·)
def srtC (l : zzI) : zzI := Lib.compact (l.mergeSort fun x y => decide (x ≤ y))
theorem asc_ext : ∀ (a b : zzI), asc a → asc b → (∀ x, x ∈ a ↔ x ∈ b) → a = b := by
 intro a
 induction a with
 | nil =>
  intro b _ _ h
  cases b with
  | nil => rfl
  | cons y b => exact absurd ((h y).2 (List.mem_cons_self ..)) (by simp)
 | cons x a ih =>
  intro b ha hb h
  cases b with
  | nil => exact absurd ((h x).1 (List.mem_cons_self ..)) (by simp)
  | cons y b =>
   have ha' := List.pairwise_cons.1 ha
   have hb' := List.pairwise_cons.1 hb
   have hxy : x = y := by
    have h1 := (h x).1 (List.mem_cons_self ..)
    have h2 := (h y).2 (List.mem_cons_self ..)
    rcases List.mem_cons.1 h1 with h1 | h1
    ·exact h1
    ·rcases List.mem_cons.1 h2 with h2 | h2
     ·exact h2.symm
     ·have := hb'.1 x h1
      have := ha'.1 y h2
      omega
   subst hxy
   congr 1
   refine ih b ha'.2 hb'.2 fun z => ?_
   constructor
   ·intro hz
    rcases List.mem_cons.1 ((h z).1 (List.mem_cons_of_mem _ hz)) with e | hz'
    ·have := ha'.1 z hz
     omega
    ·exact hz'
   ·intro hz
    rcases List.mem_cons.1 ((h z).2 (List.mem_cons_of_mem _ hz)) with e | hz'
    ·have := hb'.1 z hz
     omega
    ·exact hz'
theorem compact_asc (zs : zzI) (h : zs.Pairwise (· ≤ ·)) : asc (Lib.compact zs) := by
 unfold asc Lib.compact Lib.compactUpTo
 rw [List.pairwise_map]
 have hp : (List.range zs.length).Pairwise (· < ·) := List.pairwise_lt_range
 refine List.Pairwise.imp_of_mem ?_ (hp.filter _)
 intro i j hi hj hij
 obtain ⟨hj1, hj2⟩ := List.mem_filter.1 hj
 have hjl : j < zs.length := List.mem_range.1 hj1
 have hk := of_decide_eq_true hj2
 have e : ∀ k (hk : k < zs.length), zs.toArray[k]! = zs[k] := fun k hk => by simp [hk]
 rcases hk with rfl | hk
 ·omega
 ·rw [e j hjl, e (j - 1) (by omega)] at hk
  rw [e i (by omega), e j hjl]
  have h1 : zs[j - 1] ≤ zs[j] := List.pairwise_iff_getElem.1 h (j - 1) j (by omega) hjl (by omega)
  have h2 : zs[i] ≤ zs[j - 1] := by
   by_cases hi1 : i = j - 1
   ·subst hi1
    exact Int.le_refl _
   ·exact List.pairwise_iff_getElem.1 h i (j - 1) (by omega) (by omega) (by omega)
  omega
theorem compact_mem (zs : zzI) (x : Int) : x ∈ Lib.compact zs ↔ x ∈ zs := by
 have e : ∀ k (hk : k < zs.length), zs.toArray[k]! = zs[k] := fun k hk => by simp [hk]
 unfold Lib.compact Lib.compactUpTo
 rw [List.mem_map]
 constructor
 ·rintro ⟨i, hi, rfl⟩
  have hil := List.mem_range.1 (List.mem_filter.1 hi).1
  rw [e i hil]
  exact List.getElem_mem hil
 ·intro hx
  obtain ⟨i, hi, rfl⟩ := List.getElem_of_mem hx
  have key : ∀ i (hi : i < zs.length), ∃ a ∈ (List.range zs.length).filter (Lib.keeps zs.toArray), zs.toArray[a]! = zs[i] := by
   intro i
   induction i with
   | zero => exact fun hi => ⟨0, List.mem_filter.2 ⟨List.mem_range.2 hi, by simp [Lib.keeps]⟩, e 0 hi⟩
   | succ i ih =>
    intro hi
    by_cases hk : Lib.keeps zs.toArray (i + 1) = true
    ·exact ⟨i + 1, List.mem_filter.2 ⟨List.mem_range.2 hi, hk⟩, e _ hi⟩
    ·have hk' : zs.toArray[i + 1]! = zs.toArray[i]! := by
      unfold Lib.keeps at hk
      rw [decide_eq_true_eq] at hk
      have := not_or.1 hk
      simpa using this.2
     obtain ⟨a, h1, h2⟩ := ih (by omega)
     refine ⟨a, h1, ?_⟩
     rw [h2, ← e i (by omega), ← hk', e _ hi]
  exact key i hi
theorem srtC_asc (l : zzI) : asc (srtC l) := by
 unfold srtC
 refine compact_asc _ ?_
 have := List.pairwise_mergeSort (le := fun x y : Int => decide (x ≤ y)) (fun a b c h1 h2 => by simp at *; omega) (fun a b => by simp; omega) l
 exact this.imp (fun h => by simpa using h)
theorem srtC_mem (l : zzI) (x : Int) : x ∈ srtC l ↔ x ∈ l := by
 unfold srtC
 rw [compact_mem, List.mem_mergeSort]
theorem srtC_len (l : zzI) : (srtC l).length ≤ l.length := by
 unfold srtC
 rw [← List.length_mergeSort (le := fun x y : Int => decide (x ≤ y)) l]
 unfold Lib.compact Lib.compactUpTo
 rw [List.length_map]
 refine Nat.le_trans (List.length_filter_le _ _) ?_
 simp
def Tab (m n : Nat) (t : zzB) (f : Nat → Nat → Bool) : Prop :=
 t.length = m ∧ (∀ i, i < m → (t.getD i default).length = n) ∧ ∀ i k, i < m → k < n → (t.getD i default).getD k default = f i k
theorem Tab.congr {m n : Nat} {t : zzB} {f g : Nat → Nat → Bool} (a : Tab m n t f) (h : ∀ i k, i < m → k < n → f i k = g i k) : Tab m n t g :=
 ⟨a.1, a.2.1, fun i k hi hk => by rw [a.2.2 i k hi hk, h i k hi hk]⟩
theorem Tab.rep (m n : Nat) : Tab m n (List.replicate m (List.replicate n false)) (fun _ _ => false) := by
 have e : ∀ i, i < m → (List.replicate m (List.replicate n false)).getD i default = List.replicate n false := fun i hi => by
  rw [List.getD_eq_getElem?_getD, List.getElem?_replicate, if_pos hi]
  rfl
 refine ⟨by simp, fun i hi => by rw [e i hi]; simp, fun i k hi hk => ?_⟩
 rw [e i hi, List.getD_eq_getElem?_getD, List.getElem?_replicate, if_pos hk]
 rfl
theorem Tab.set {m n : Nat} {t : zzB} {f : Nat → Nat → Bool} (a : Tab m n t f) {i k : Nat} (hi : i < m) (hk : k < n) :
  Tab m n (t.set i ((t.getD i default).set k true)) (fun x y => f x y || decide (x = i ∧ y = k)) := by
 obtain ⟨h1, h2, h3⟩ := a
 refine ⟨by rw [List.length_set]; exact h1, fun j hj => ?_, fun j q hj hq => ?_⟩
 ·by_cases hji : j = i
  ·subst hji
   rw [getD_set_self _ _ _ (by omega), List.length_set]
   exact h2 j hj
  ·rw [getD_set_other _ _ _ _ hji]
   exact h2 j hj
 ·by_cases hji : j = i
  ·subst hji
   rw [getD_set_self _ _ _ (by omega)]
   by_cases hqk : q = k
   ·subst hqk
    rw [getD_set_self _ _ _ (by have := h2 j hj; omega)]
    simp
   ·rw [getD_set_other _ _ _ _ hqk, h3 j q hj hq]
    simp [hqk]
  ·rw [getD_set_other _ _ _ _ hji, h3 j q hj hq]
   simp [hji]
def cdP (x : Option Nat) : Int := match x with
 | none => -1
 | some j => j
theorem cdP_neg (x : Option Nat) : cdP x < 0 ↔ x = none := by
 cases x with
 | none => simp [cdP]
 | some j => simp [cdP]
def encP (c : Pl) : Par := ⟨c.1, c.2⟩
def meetG (oc : Prop) (o : Bool) (a b n : Int) (part : zzZ) (todo : List Par) (K : zzZ → List Par → Prop) : Prop :=
 (oc ∧ (let v2 := ((part.getD a.toNat default).getD b.toNat default); ((o = true → ((0 ≤ a ∧ a < part.length) ∧ 0 ≤ b ∧ b < (part.getD a.toNat default).length)) ∧
  cond (o && (decide (v2 < 0))) (((0 ≤ a ∧ a < part.length) ∧ ((0 ≤ b ∧ b < (part.getD a.toNat default).length) ∧ (((todo.length + ([(Par.mk a b)]).length) * 16 ≤ 140737488355328) ∧
   K (part.set a.toNat ((part.getD a.toNat default).set b.toNat n)) (todo ++ [(Par.mk a b)]))))) (K part todo))))
theorem meetG_of {w h n : Nat} {part : zzZ} {todo : List Par} {L : Pl → Option Nat} {S : List Pl} {oc : Prop} {o : Bool} {a b : Int} {K : zzZ → List Par → Prop} {l : List Pl}
  (A : Arr cdP w h part L) (hT : todo = S.map encP) (hr : free (cellsOf w h) L + S.length ≤ 1000000) (hoc : oc)
  (hl : (o = false ∧ l = []) ∨ (o = true ∧ ∃ i j : Nat, a = i ∧ b = j ∧ i < w ∧ j < h ∧ l = [(i, j)]))
  (hk : ∀ part' todo' s', s' = visit n l (L, S) → Arr cdP w h part' s'.1 → todo' = s'.2.map encP → free (cellsOf w h) s'.1 + s'.2.length ≤ 1000000 → K part' todo') : meetG oc o a b n part todo K := by
 unfold meetG
 refine ⟨hoc, ?_⟩
 rcases hl with ⟨rfl, rfl⟩ | ⟨rfl, i, j, rfl, rfl, hi, hj, rfl⟩
 ·refine ⟨(fun q => by cases q), ?_⟩
  rw [Bool.false_and, cond_false]
  exact hk _ _ (L, S) rfl A hT hr
 ·obtain ⟨A1, A2, A3⟩ := id A
  have h2 := A2 i hi
  have e3 := A3 i j hi hj
  rw [Int.toNat_natCast, Int.toNat_natCast]
  refine ⟨fun _ => ⟨⟨by omega, by omega⟩, by omega, by omega⟩, ?_⟩
  simp only [e3, Bool.true_and]
  by_cases hn : L (i, j) = none
  ·rw [dec_t ((cdP_neg _).2 hn), cond_true]
   have hv : visit n [(i, j)] (L, S) = (upd L (i, j) n, S ++ [(i, j)]) := by
    show visit1 n (L, S) (i, j) = _
    unfold visit1
    rw [if_pos hn]
   have hfr := free_upd (n := n) (mem_cellsOf.2 ⟨hi, hj⟩) hn
   subst hT
   refine ⟨⟨by omega, by omega⟩, ⟨by omega, by omega⟩, by simp only [List.length_map, List.length_singleton]; omega, ?_⟩
   refine hk _ _ _ hv.symm ?_ ?_ ?_
   ·exact A.set hi hj
   ·rw [List.map_append]
    rfl
   ·simp only [List.length_append, List.length_singleton]
    omega
  ·rw [dec_f (fun q => hn ((cdP_neg _).1 q)), cond_false]
   have hv : visit n [(i, j)] (L, S) = (L, S) := by
    show visit1 n (L, S) (i, j) = _
    unfold visit1
    rw [if_neg hn]
   exact hk _ _ _ hv.symm A hT hr
def nxG (c : Bool) (r1 r2 : Prop) (b : Bool) (x : Cel) (nx : List Cel) (K : List Cel → Prop) : Prop :=
 cond c (r1 ∧ (r2 ∧ cond (!b) (((nx.length + [x].length) * 16 ≤ 140737488355328) ∧ K (nx ++ [x])) (K nx))) (K nx)
theorem asc.le {l : zzI} (h : asc l) : l.Pairwise (· ≤ ·) := List.Pairwise.imp (fun h => Int.le_of_lt h) h
theorem asc.get {l : zzI} (h : asc l) {i j : Nat} (hij : i < j) (hj : j < l.length) : l.getD i default < l.getD j default := by
 have := List.pairwise_iff_getElem.1 h i j (by omega) hj hij
 simpa [List.getD_eq_getElem?_getD, hj, (show i < l.length by omega)] using this
theorem below_mem {l : zzI} (h : asc l) {x : Int} (hx : x ∈ l) : below_ l x < l.length ∧ l.getD (below_ l x) default = x := by
 obtain ⟨i, hi, rfl⟩ := List.getElem_of_mem hx
 have e : l.getD i default = l[i] := by simp [List.getD_eq_getElem?_getD, hi]
 have h1 := below_lt l l[i] h.le i hi
 rw [e] at h1
 have h2 : below_ l l[i] ≤ i := by
  by_cases q : i < below_ l l[i]
  ·have := h1.2 q
   omega
  ·omega
 have h3 := (below_first l l[i]).2 (by omega)
 refine ⟨by omega, ?_⟩
 by_cases q : below_ l l[i] = i
 ·rw [q]; exact e
 ·have := h.get (show below_ l l[i] < i by omega) hi
  rw [e] at this
  omega
def gxs (w : Int) (ls : List Seg) : zzI := srtC ([0, w] ++ ls.flatMap fun s => [s.X1, s.X2])
def gys (h : Int) (ls : List Seg) : zzI := srtC ([0, h] ++ ls.flatMap fun s => [s.Y1, s.Y2])
def lfG (xs ys : zzI) (ls : List Seg) (i k : Nat) : Bool := ls.any fun s => decide (i = below_ xs s.X1 ∧ below_ ys s.Y1 ≤ k ∧ k < below_ ys s.Y2)
def blG (xs ys : zzI) (ls : List Seg) (i k : Nat) : Bool := ls.any fun s => decide (below_ xs s.X1 ≤ i ∧ i < below_ xs s.X2 ∧ k = below_ ys s.Y1)
def rectG (xs ys : zzI) (c : Pl) : Rect := ⟨xs.getD c.1 default, ys.getD c.2 default, xs.getD (c.1 + 1) default - xs.getD c.1 default, ys.getD (c.2 + 1) default - ys.getD c.2 default⟩
def nbG (xs ys : zzI) (ls : List Seg) : Pl → List Pl := nbs (xs.length - 1) (ys.length - 1) (lfG xs ys ls) (blG xs ys ls)
def partsG (w h : Int) (ls : List Seg) : List (List Rect) := sepA (nbG (gxs w ls) (gys h ls) ls) (rectG (gxs w ls) (gys h ls)) (cellsOf ((gxs w ls).length - 1) ((gys h ls).length - 1))
def segOK (w h : Int) (s : Seg) : Prop := (0 ≤ s.X1 ∧ s.X1 ≤ w ∧ 0 ≤ s.Y1 ∧ s.Y1 ≤ h ∧ 0 ≤ s.X2 ∧ s.X2 ≤ w ∧ 0 ≤ s.Y2 ∧ s.Y2 ≤ h) ∧ ((s.Y1 = s.Y2 ∧ s.X1 < s.X2) ∨ (s.X1 = s.X2 ∧ s.Y1 < s.Y2))
theorem gxs_mem {w : Int} {ls : List Seg} {x : Int} : x ∈ gxs w ls ↔ x = 0 ∨ x = w ∨ ∃ s ∈ ls, x = s.X1 ∨ x = s.X2 := by
 unfold gxs
 rw [srtC_mem]
 simp only [List.mem_append, List.mem_cons, List.not_mem_nil, or_false, List.mem_flatMap, or_assoc]
theorem gys_mem {h : Int} {ls : List Seg} {x : Int} : x ∈ gys h ls ↔ x = 0 ∨ x = h ∨ ∃ s ∈ ls, x = s.Y1 ∨ x = s.Y2 := by
 unfold gys
 rw [srtC_mem]
 simp only [List.mem_append, List.mem_cons, List.not_mem_nil, or_false, List.mem_flatMap, or_assoc]
theorem gxs_asc (w : Int) (ls : List Seg) : asc (gxs w ls) := srtC_asc _
theorem gys_asc (h : Int) (ls : List Seg) : asc (gys h ls) := srtC_asc _
theorem flat2_len (f g : Seg → Int) : ∀ ls : List Seg, (ls.flatMap fun s => [f s, g s]).length = 2 * ls.length
 | [] => rfl
 | s :: ls => by
  rw [List.flatMap_cons, List.length_append, flat2_len f g ls]
  simp
  omega
theorem gxs_len (w : Int) (ls : List Seg) : (gxs w ls).length ≤ 2 + 2 * ls.length := by
 refine Nat.le_trans (srtC_len _) ?_
 rw [List.length_append, flat2_len]
 simp
theorem gys_len (h : Int) (ls : List Seg) : (gys h ls).length ≤ 2 + 2 * ls.length := by
 refine Nat.le_trans (srtC_len _) ?_
 rw [List.length_append, flat2_len]
 simp
theorem gxs_pos (w : Int) (ls : List Seg) : 0 < (gxs w ls).length := List.length_pos_of_mem (gxs_mem.2 (.inl rfl))
theorem gys_pos (h : Int) (ls : List Seg) : 0 < (gys h ls).length := List.length_pos_of_mem (gys_mem.2 (.inl rfl))
theorem cellsOf_len (w h : Nat) : (cellsOf w h).length = h * w := by
 unfold cellsOf
 induction h with
 | zero => simp
 | succ h ih =>
  rw [List.range_succ, List.flatMap_append, List.length_append, ih]
  simp [Nat.succ_mul]
theorem sepRun_len {β : Type} (nb : Pl → List Pl) (rect : Pl → β) : ∀ (l : List Pl) (s : (Pl → Option Nat) × List (List β)), (sepRun nb rect l s).2.length ≤ s.2.length + l.length
 | [], s => Nat.le_refl _
 | c :: l, s => by
  refine Nat.le_trans (sepRun_len nb rect l (sepStep nb rect s c)) ?_
  have : (sepStep nb rect s c).2.length ≤ s.2.length + 1 := by
   unfold sepStep
   simp only [List.length_set]
   split
   ·simp
   ·omega
  simp only [List.length_cons]
  omega
theorem sepRun_append {β : Type} (nb : Pl → List Pl) (rect : Pl → β) (a b : List Pl) (s : (Pl → Option Nat) × List (List β)) : sepRun nb rect (a ++ b) s = sepRun nb rect b (sepRun nb rect a s) := by
 unfold sepRun
 rw [List.foldl_append]
theorem flatten_mem_len {β : Type} : ∀ (l : List (List β)) (j : Nat), (l.getD j default).length ≤ l.flatten.length
 | [], j => by simp [List.getD_eq_getElem?_getD]; rfl
 | x :: l, 0 => by simp
 | x :: l, j + 1 => by
  have := flatten_mem_len l j
  simp only [List.getD_cons_succ, List.flatten_cons, List.length_append]
  omega
def M_zh : Nat → Nat → Nat → Canon UU := fun o b r => cond (Nat.beq o 0 && Nat.beq b 0) ⟨[1, 2, 4, 5, 19, 20, 21], [2], [], [], []⟩ (cond (Nat.beq o 34000 && Nat.beq b 0) ⟨[1, 6, 7, 23, 24, 25], [], [(.tmp 6, 34188, .int), (.tmp 7, 34189, .int)], [], []⟩ (cond (Nat.beq o 34000 && Nat.beq b 2) ⟨[1, 10, 68, 69], [34049], [(.cell 34049 0, 34188, .int), (.cell 34049 1, 34189, .int), (.cell 34049 2, 34190, .bools), (.cell 34049 3, 34191, .bools), (.cell 34049 4, 34192, .ints)], [], [34190, 34191, 34192]⟩ (cond (Nat.beq o 34000 && Nat.beq b 4) ⟨[10, 118, 119, 120], [34049], [(.cell 34049 0, 34188, .int), (.cell 34049 1, 34189, .int), (.cell 34049 2, 34190, .bools), (.cell 34049 3, 34191, .bools), (.cell 34049 4, 34192, .ints)], [], [34190, 34191, 34192]⟩ (cond (Nat.beq o 34000 && Nat.beq b 6) ⟨[10, 12, 13, 15, 118, 119, 120], [34012, 34049], [(.cell 34049 0, 34188, .int), (.cell 34049 1, 34189, .int), (.cell 34049 2, 34190, .bools), (.cell 34049 3, 34191, .bools), (.cell 34049 4, 34192, .ints)], [], [34190, 34191, 34192]⟩ (cond (Nat.beq o 40000 && Nat.beq b 0) ⟨[0, 3, 12, 13], [34049], [(.cell 34049 0, 40114, .int), (.cell 34049 1, 40115, .int), (.cell 34049 2, 40116, .bools), (.cell 34049 3, 40117, .bools), (.cell 34049 4, 40118, .ints), (.tmp 3, 40119, .rects)], [], [40116, 40117, 40118, 40119]⟩ (cond (Nat.beq o 34000 && Nat.beq b 8) ⟨[10, 12, 13, 15, 118, 119, 120], [34012, 34049], [(.cell 34049 0, 34188, .int), (.cell 34049 1, 34189, .int), (.cell 34049 2, 34190, .bools), (.cell 34049 3, 34191, .bools), (.cell 34049 4, 34192, .ints)], [], [34190, 34191, 34192]⟩ (cond (Nat.beq o 40000 && Nat.beq b 2) ⟨[0, 3, 4, 12, 13, 21, 22], [34049], [(.cell 34049 0, 40114, .int), (.cell 34049 1, 40115, .int), (.cell 34049 2, 40116, .bools), (.cell 34049 3, 40117, .bools), (.cell 34049 4, 40118, .ints), (.tmp 3, 40119, .rects)], [], [40116, 40117, 40118, 40119]⟩ (cond (Nat.beq o 40042000 && Nat.beq b 0) ⟨[4, 7, 8, 2000000, 2000003, 2000004, 2000005, 2000012, 2000013, 2000021, 2000022], [34049, 40042004, 40042007, 40042008], [(.cell 34049 0, 40042145, .int), (.cell 34049 1, 40042146, .int), (.cell 34049 2, 40042147, .bools), (.cell 34049 3, 40042148, .bools), (.cell 34049 4, 40042149, .ints), (.cell 40042008 0, 40042150, .par), (.tmp 2000003, 40042151, .rects)], [], [40042147, 40042148, 40042149, 40042151]⟩ (⟨[], [], [], [], []⟩)))))))))
def st_zh_0 (t1 : List Seg) (t5 : Int) (t19 : List Seg) (t20 t21 : Int) (c2_0 c2_1 : ByteArray) (c2_2 c2_3 c2_4 c2_5 : Int) (c2_6 c2_7 : List Rect) : ASt UU := ⟨fun u => cond (Nat.beq u 1) (.sl .seg t1) (cond (Nat.beq u 2) (.ptr 2 0) (cond (Nat.beq u 4) (.nils) (cond (Nat.beq u 5) (.int .i64 t5) (cond (Nat.beq u 19) (.sl .seg t19) (cond (Nat.beq u 20) (.int .i64 t20) (cond (Nat.beq u 21) (.int .i64 t21) (.any))))))), fun u => cond (Nat.beq u 2) (some (.cells [.str c2_0, .str c2_1, .int .i64 c2_2, .int .i64 c2_3, .int .i64 c2_4, .int .i64 c2_5, .sl .rect c2_6, .sl .rect c2_7])) (none)⟩
def st_zh_1 (t1 t23 : List Seg) (t24 t25 : Int) (qbj qbk : zzI) : ASt UU := ⟨fun u => cond (Nat.beq u 1) (.sl .seg t1) (cond (Nat.beq u 6) (.osl 34188 0) (cond (Nat.beq u 7) (.osl 34189 0) (cond (Nat.beq u 23) (.sl .seg t23) (cond (Nat.beq u 24) (.int .i64 t24) (cond (Nat.beq u 25) (.int .i64 t25) (.any)))))), fun u => cond (Nat.beq u 34188) (some (.row .int 0 qbj)) (cond (Nat.beq u 34189) (some (.row .int 0 qbk)) (none))⟩
def st_zh_2 (t1 : List Seg) (t68 t69 : Int) (qbj qbk : zzI) (qbl qbm : zzB) (qbn : zzZ) : ASt UU := ⟨fun u => cond (Nat.beq u 1) (.sl .seg t1) (cond (Nat.beq u 10) (.ptr 34049 0) (cond (Nat.beq u 68) (.int .i64 t68) (cond (Nat.beq u 69) (.int .i64 t69) (.any)))), fun u => cond (Nat.beq u 34188) (some (.row .int 0 qbj)) (cond (Nat.beq u 34189) (some (.row .int 0 qbk)) (cond (Nat.beq u 34190) (some (.deep .bools 0 0 qbl)) (cond (Nat.beq u 34191) (some (.deep .bools 0 0 qbm)) (cond (Nat.beq u 34192) (some (.deep .ints 0 0 qbn)) (cond (Nat.beq u 34049) (some (.cells [.osl 34188 0, .osl 34189 0, .osl 34190 0, .osl 34191 0, .osl 34192 0])) (none))))))⟩
def st_zh_3 (t118 : List Seg) (t119 t120 : Int) (qbj qbk : zzI) (qbl qbm : zzB) (qbn : zzZ) : ASt UU := ⟨fun u => cond (Nat.beq u 10) (.ptr 34049 0) (cond (Nat.beq u 118) (.sl .seg t118) (cond (Nat.beq u 119) (.int .i64 t119) (cond (Nat.beq u 120) (.int .i64 t120) (.any)))), fun u => cond (Nat.beq u 34188) (some (.row .int 0 qbj)) (cond (Nat.beq u 34189) (some (.row .int 0 qbk)) (cond (Nat.beq u 34190) (some (.deep .bools 0 0 qbl)) (cond (Nat.beq u 34191) (some (.deep .bools 0 0 qbm)) (cond (Nat.beq u 34192) (some (.deep .ints 0 0 qbn)) (cond (Nat.beq u 34049) (some (.cells [.osl 34188 0, .osl 34189 0, .osl 34190 0, .osl 34191 0, .osl 34192 0])) (none))))))⟩
def st_zh_4 (t13 t15 : Int) (t118 : List Seg) (t119 t120 qas qat qau qav : Int) (qbj qbk : zzI) (qbl qbm : zzB) (qbn : zzZ) : ASt UU := ⟨fun u => cond (Nat.beq u 10) (.ptr 34049 0) (cond (Nat.beq u 12) (.ptr 34012 0) (cond (Nat.beq u 13) (.int .i64 t13) (cond (Nat.beq u 15) (.int .i64 t15) (cond (Nat.beq u 118) (.sl .seg t118) (cond (Nat.beq u 119) (.int .i64 t119) (cond (Nat.beq u 120) (.int .i64 t120) (.any))))))), fun u => cond (Nat.beq u 34188) (some (.row .int 0 qbj)) (cond (Nat.beq u 34189) (some (.row .int 0 qbk)) (cond (Nat.beq u 34190) (some (.deep .bools 0 0 qbl)) (cond (Nat.beq u 34191) (some (.deep .bools 0 0 qbm)) (cond (Nat.beq u 34192) (some (.deep .ints 0 0 qbn)) (cond (Nat.beq u 34012) (some (.cells [.int .i64 qas, .int .i64 qat, .int .i64 qau, .int .i64 qav])) (cond (Nat.beq u 34049) (some (.cells [.osl 34188 0, .osl 34189 0, .osl 34190 0, .osl 34191 0, .osl 34192 0])) (none)))))))⟩
def st_zh_5 (t12 t13 : Int) (qbv qbw : zzI) (qbx qby : zzB) (qbz : zzZ) (qca : List (List Rect)) : ASt UU := ⟨fun u => cond (Nat.beq u 0) (.ptr 34049 0) (cond (Nat.beq u 3) (.osl 40119 0) (cond (Nat.beq u 12) (.int .i64 t12) (cond (Nat.beq u 13) (.int .i64 t13) (.any)))), fun u => cond (Nat.beq u 40114) (some (.row .int 0 qbv)) (cond (Nat.beq u 40115) (some (.row .int 0 qbw)) (cond (Nat.beq u 40116) (some (.deep .bools 0 0 qbx)) (cond (Nat.beq u 40117) (some (.deep .bools 0 0 qby)) (cond (Nat.beq u 40118) (some (.deep .ints 0 0 qbz)) (cond (Nat.beq u 40119) (some (.deep .rects 0 0 qca)) (cond (Nat.beq u 34049) (some (.cells [.osl 40114 0, .osl 40115 0, .osl 40116 0, .osl 40117 0, .osl 40118 0])) (none)))))))⟩
def st_zh_6 (t13 t15 : Int) (t118 : List Seg) (t119 t120 qas qat qau qav : Int) (qbj qbk : zzI) (qbl qbm : zzB) (qbn : zzZ) : ASt UU := ⟨fun u => cond (Nat.beq u 10) (.ptr 34049 0) (cond (Nat.beq u 12) (.ptr 34012 0) (cond (Nat.beq u 13) (.int .i64 t13) (cond (Nat.beq u 15) (.int .i64 t15) (cond (Nat.beq u 118) (.sl .seg t118) (cond (Nat.beq u 119) (.int .i64 t119) (cond (Nat.beq u 120) (.int .i64 t120) (.any))))))), fun u => cond (Nat.beq u 34188) (some (.row .int 0 qbj)) (cond (Nat.beq u 34189) (some (.row .int 0 qbk)) (cond (Nat.beq u 34190) (some (.deep .bools 0 0 qbl)) (cond (Nat.beq u 34191) (some (.deep .bools 0 0 qbm)) (cond (Nat.beq u 34192) (some (.deep .ints 0 0 qbn)) (cond (Nat.beq u 34012) (some (.cells [.int .i64 qas, .int .i64 qat, .int .i64 qau, .int .i64 qav])) (cond (Nat.beq u 34049) (some (.cells [.osl 34188 0, .osl 34189 0, .osl 34190 0, .osl 34191 0, .osl 34192 0])) (none)))))))⟩
def st_zh_7 (t4 t12 t13 t21 t22 : Int) (qbv qbw : zzI) (qbx qby : zzB) (qbz : zzZ) (qca : List (List Rect)) : ASt UU := ⟨fun u => cond (Nat.beq u 0) (.ptr 34049 0) (cond (Nat.beq u 3) (.osl 40119 0) (cond (Nat.beq u 4) (.int .i64 t4) (cond (Nat.beq u 12) (.int .i64 t12) (cond (Nat.beq u 13) (.int .i64 t13) (cond (Nat.beq u 21) (.int .i64 t21) (cond (Nat.beq u 22) (.int .i64 t22) (.any))))))), fun u => cond (Nat.beq u 40114) (some (.row .int 0 qbv)) (cond (Nat.beq u 40115) (some (.row .int 0 qbw)) (cond (Nat.beq u 40116) (some (.deep .bools 0 0 qbx)) (cond (Nat.beq u 40117) (some (.deep .bools 0 0 qby)) (cond (Nat.beq u 40118) (some (.deep .ints 0 0 qbz)) (cond (Nat.beq u 40119) (some (.deep .rects 0 0 qca)) (cond (Nat.beq u 34049) (some (.cells [.osl 40114 0, .osl 40115 0, .osl 40116 0, .osl 40117 0, .osl 40118 0])) (none)))))))⟩
def st_zh_8 (qcf qcg qch qci qcj qck qaw : Int) (qbo qbp : zzI) (qbq qbr : zzB) (qbs : zzZ) (qbt : List Par) (qbu : List (List Rect)) : ASt UU := ⟨fun u => cond (Nat.beq u 4) (.ptr 40042004 0) (cond (Nat.beq u 7) (.ptr 40042007 0) (cond (Nat.beq u 8) (.ptr 40042008 0) (cond (Nat.beq u 2000000) (.ptr 34049 0) (cond (Nat.beq u 2000003) (.osl 40042151 0) (cond (Nat.beq u 2000004) (.int .i64 qcf) (cond (Nat.beq u 2000005) (.int .i64 qcg) (cond (Nat.beq u 2000012) (.int .i64 qch) (cond (Nat.beq u 2000013) (.int .i64 qci) (cond (Nat.beq u 2000021) (.int .i64 qcj) (cond (Nat.beq u 2000022) (.int .i64 qck) (.any))))))))))), fun u => cond (Nat.beq u 40042145) (some (.row .int 0 qbo)) (cond (Nat.beq u 40042146) (some (.row .int 0 qbp)) (cond (Nat.beq u 40042147) (some (.deep .bools 0 0 qbq)) (cond (Nat.beq u 40042148) (some (.deep .bools 0 0 qbr)) (cond (Nat.beq u 40042149) (some (.deep .ints 0 0 qbs)) (cond (Nat.beq u 40042150) (some (.row .par 0 qbt)) (cond (Nat.beq u 40042151) (some (.deep .rects 0 0 qbu)) (cond (Nat.beq u 34049) (some (.cells [.osl 40042145 0, .osl 40042146 0, .osl 40042147 0, .osl 40042148 0, .osl 40042149 0])) (cond (Nat.beq u 40042004) (some (.cells [.ptr 34049 0])) (cond (Nat.beq u 40042007) (some (.cells [.int .i64 qaw])) (cond (Nat.beq u 40042008) (some (.cells [.osl 40042150 0])) (none)))))))))))⟩
def g_zh_e (qe qf : ByteArray) (qg qh qa qb : Int) (qc qd : List Rect) (a1 : List Seg) (Q : List (List Rect) → Int → Prop) (i0 : List Seg → Int → List Seg → Int → Int → ByteArray → ByteArray → Int → Int → Int → Int → List Rect → List Rect → Prop) : Prop := (let r0 := (sp_zc qe qf qg qh qa qb qc qd); cond (r0 != 0) (Q ([]) r0) (cond (decide (200 < (a1.length : Int))) (Q ([]) 4) (i0 a1 0 a1 (a1.length : Int) 0 qe qf qg qh qa qb qc qd)))
def g_zh_s0 (rec : List Seg → Int → List Seg → Int → Int → ByteArray → ByteArray → Int → Int → Int → Int → List Rect → List Rect → Prop) (x0 : List Seg → Int → List Seg → Int → Int → ByteArray → ByteArray → Int → Int → Int → Int → List Rect → List Rect → Prop) (x1 : List Seg → Int → List Seg → Int → Int → ByteArray → ByteArray → Int → Int → Int → Int → List Rect → List Rect → Prop) (t1 : List Seg) (t5 : Int) (t19 : List Seg) (t20 t21 : Int) (c2_0 c2_1 : ByteArray) (c2_2 c2_3 c2_4 c2_5 : Int) (c2_6 c2_7 : List Rect) : Prop := cond (decide (t21 < t20)) ((let e0 := (t19.getD t21.toNat default); ((0 ≤ t21 ∧ t21 < t19.length) ∧ (let r1 := (sp_zd c2_0 c2_1 c2_2 c2_3 c2_4 c2_5 c2_6 c2_7 e0.X1 e0.Y1 e0.X2 e0.Y2); cond (!r1) (x0 t1 1 t19 t20 t21 c2_0 c2_1 c2_2 c2_3 c2_4 c2_5 c2_6 c2_7) (rec t1 t5 t19 t20 (w64 (t21 + 1)) c2_0 c2_1 c2_2 c2_3 c2_4 c2_5 c2_6 c2_7))))) (x1 t1 t5 t19 t20 t21 c2_0 c2_1 c2_2 c2_3 c2_4 c2_5 c2_6 c2_7)
def g_zh_c0_0 (Q : List (List Rect) → Int → Prop) (t1 : List Seg) (t5 : Int) (t19 : List Seg) (t20 t21 : Int) (c2_0 c2_1 : ByteArray) (c2_2 c2_3 c2_4 c2_5 : Int) (c2_6 c2_7 : List Rect) : Prop := Q ([]) t5
def g_zh_c0_1 (Q : List (List Rect) → Int → Prop) (t1 : List Seg) (t5 : Int) (t19 : List Seg) (t20 t21 : Int) (c2_0 c2_1 : ByteArray) (c2_2 c2_3 c2_4 c2_5 : Int) (c2_6 c2_7 : List Rect) (i1 : List Seg → List Seg → Int → Int → zzI → zzI → Prop) : Prop := i1 t1 t1 (t1.length : Int) 0 ([0, c2_4]) ([0, c2_5])
def g_zh_s1 (rec : List Seg → List Seg → Int → Int → zzI → zzI → Prop) (x0 : List Seg → List Seg → Int → Int → zzI → zzI → Prop) (t1 t23 : List Seg) (t24 t25 : Int) (qbj qbk : zzI) : Prop := cond (decide (t25 < t24)) ((let e0 := (t23.getD t25.toNat default); ((0 ≤ t25 ∧ t25 < t23.length) ∧ (((qbj.length + ([e0.X1, e0.X2]).length) * 8 ≤ 140737488355328) ∧ (((qbk.length + ([e0.Y1, e0.Y2]).length) * 8 ≤ 140737488355328) ∧ rec t1 t23 t24 (w64 (t25 + 1)) (qbj ++ ([e0.X1, e0.X2])) (qbk ++ ([e0.Y1, e0.Y2]))))))) (x0 t1 t23 t24 t25 qbj qbk)
def g_zh_c1_0 (Q : List (List Rect) → Int → Prop) (t1 t23 : List Seg) (t24 t25 : Int) (qbj qbk : zzI) (i2 : List Seg → Int → Int → zzI → zzI → zzB → zzB → zzZ → Prop) : Prop := ((qbj.length ≤ 1000) ∧ ((qbk.length ≤ 1000) ∧ (let v0 := w64 ((w64 (((srtC qbj).length : Int) - 1)) * (w64 (((srtC qbk).length : Int) - 1))); cond (decide (6000 < v0)) (Q ([]) 4) (i2 t1 ((srtC qbj).length : Int) 0 (srtC qbj) (srtC qbk) ([]) ([]) ([])))))
def g_zh_s2 (rec : List Seg → Int → Int → zzI → zzI → zzB → zzB → zzZ → Prop) (x0 : List Seg → Int → Int → zzI → zzI → zzB → zzB → zzZ → Prop) (t1 : List Seg) (t68 t69 : Int) (qbj qbk : zzI) (qbl qbm : zzB) (qbn : zzZ) : Prop := cond (decide (t69 < t68)) (((0 ≤ (qbk.length : Int) ∧ (qbk.length : Int) = (qbk.length : Int) ∧ (qbk.length : Int) * 1 ≤ 140737488355328) ∧ (((qbl.length + 1) * 24 ≤ 140737488355328) ∧ ((0 ≤ (qbk.length : Int) ∧ (qbk.length : Int) = (qbk.length : Int) ∧ (qbk.length : Int) * 1 ≤ 140737488355328) ∧ (((qbm.length + 1) * 24 ≤ 140737488355328) ∧ ((pre_zat ([(-1)]) (qbk.length : Int)) ∧ (((qbn.length + 1) * 24 ≤ 140737488355328) ∧ rec t1 t68 (w64 (t69 + 1)) qbj qbk (qbl ++ [(List.replicate ((qbk.length : Int).toNat) (false : Bool))]) (qbm ++ [(List.replicate ((qbk.length : Int).toNat) (false : Bool))]) (qbn ++ [(sp_zat ([(-1)]) (qbk.length : Int))])))))))) (x0 t1 t68 t69 qbj qbk qbl qbm qbn)
def g_zh_c2_0 (Q : List (List Rect) → Int → Prop) (t1 : List Seg) (t68 t69 : Int) (qbj qbk : zzI) (qbl qbm : zzB) (qbn : zzZ) (i3 : List Seg → Int → Int → zzI → zzI → zzB → zzB → zzZ → Prop) : Prop := i3 t1 (t1.length : Int) 0 qbj qbk qbl qbm qbn
def g_zh_s3 (rec : List Seg → Int → Int → zzI → zzI → zzB → zzB → zzZ → Prop) (x0 : List Seg → Int → Int → zzI → zzI → zzB → zzB → zzZ → Prop) (t118 : List Seg) (t119 t120 : Int) (qbj qbk : zzI) (qbl qbm : zzB) (qbn : zzZ) (i4 : Int → Int → List Seg → Int → Int → Int → Int → Int → Int → zzI → zzI → zzB → zzB → zzZ → Prop) : Prop := cond (decide (t120 < t119)) ((let e0 := (t118.getD t120.toNat default); ((0 ≤ t120 ∧ t120 < t118.length) ∧ (let r1 := (sp_zas qbj e0.X1); ((pre_zas qbj e0.X1) ∧ (let r2 := (sp_zas qbk e0.Y1); ((pre_zas qbk e0.Y1) ∧ i4 r1.1 r2.1 t118 t119 t120 e0.X1 e0.Y1 e0.X2 e0.Y2 qbj qbk qbl qbm qbn))))))) (x0 t118 t119 t120 qbj qbk qbl qbm qbn)
def g_zh_c3_0 (Q : List (List Rect) → Int → Prop) (t118 : List Seg) (t119 t120 : Int) (qbj qbk : zzI) (qbl qbm : zzB) (qbn : zzZ) (i5 : Int → Int → zzI → zzI → zzB → zzB → zzZ → List (List Rect) → Prop) : Prop := i5 (w64 ((qbk.length : Int) - 1)) 0 qbj qbk qbl qbm qbn ([])
def g_zh_s4 (rec : Int → Int → List Seg → Int → Int → Int → Int → Int → Int → zzI → zzI → zzB → zzB → zzZ → Prop) (x0 : Int → Int → List Seg → Int → Int → Int → Int → Int → Int → zzI → zzI → zzB → zzB → zzZ → Prop) (t13 t15 : Int) (t118 : List Seg) (t119 t120 qas qat qau qav : Int) (qbj qbk : zzI) (qbl qbm : zzB) (qbn : zzZ) : Prop := ((0 ≤ t13 ∧ t13 < qbj.length) ∧ cond (decide ((qbj.getD t13.toNat default) < qau)) ((((0 ≤ t13 ∧ t13 < qbm.length) ∧ (0 ≤ t15 ∧ t15 < (qbm.getD t13.toNat default).length)) ∧ rec (w64 (t13 + 1)) t15 t118 t119 t120 qas qat qau qav qbj qbk qbl (qbm.set t13.toNat ((qbm.getD t13.toNat default).set t15.toNat true)) qbn)) (x0 t13 t15 t118 t119 t120 qas qat qau qav qbj qbk qbl qbm qbn))
def g_zh_c4_0 (rec : List Seg → Int → Int → zzI → zzI → zzB → zzB → zzZ → Prop) (x0 : List Seg → Int → Int → zzI → zzI → zzB → zzB → zzZ → Prop) (t13 t15 : Int) (t118 : List Seg) (t119 t120 qas qat qau qav : Int) (qbj qbk : zzI) (qbl qbm : zzB) (qbn : zzZ) (i6 : Int → Int → List Seg → Int → Int → Int → Int → Int → Int → zzI → zzI → zzB → zzB → zzZ → Prop) : Prop := i6 t13 t15 t118 t119 t120 qas qat qau qav qbj qbk qbl qbm qbn
def g_zh_s5 (rec : Int → Int → zzI → zzI → zzB → zzB → zzZ → List (List Rect) → Prop) (x0 : Int → Int → zzI → zzI → zzB → zzB → zzZ → List (List Rect) → Prop) (t12 t13 : Int) (qbv qbw : zzI) (qbx qby : zzB) (qbz : zzZ) (qca : List (List Rect)) (i7 : Int → Int → Int → Int → Int → zzI → zzI → zzB → zzB → zzZ → List (List Rect) → Prop) : Prop := cond (decide (t13 < t12)) (i7 t13 t12 t13 (w64 ((qbv.length : Int) - 1)) 0 qbv qbw qbx qby qbz qca) (x0 t12 t13 qbv qbw qbx qby qbz qca)
def g_zh_c5_0 (Q : List (List Rect) → Int → Prop) (t12 t13 : Int) (qbv qbw : zzI) (qbx qby : zzB) (qbz : zzZ) (qca : List (List Rect)) : Prop := Q qca 0
def g_zh_s6 (rec : Int → Int → List Seg → Int → Int → Int → Int → Int → Int → zzI → zzI → zzB → zzB → zzZ → Prop) (x0 : Int → Int → List Seg → Int → Int → Int → Int → Int → Int → zzI → zzI → zzB → zzB → zzZ → Prop) (t13 t15 : Int) (t118 : List Seg) (t119 t120 qas qat qau qav : Int) (qbj qbk : zzI) (qbl qbm : zzB) (qbn : zzZ) : Prop := ((0 ≤ t15 ∧ t15 < qbk.length) ∧ cond (decide ((qbk.getD t15.toNat default) < qav)) ((((0 ≤ t13 ∧ t13 < qbl.length) ∧ (0 ≤ t15 ∧ t15 < (qbl.getD t13.toNat default).length)) ∧ rec t13 (w64 (t15 + 1)) t118 t119 t120 qas qat qau qav qbj qbk (qbl.set t13.toNat ((qbl.getD t13.toNat default).set t15.toNat true)) qbm qbn)) (x0 t13 t15 t118 t119 t120 qas qat qau qav qbj qbk qbl qbm qbn))
def g_zh_c6_0 (rec : List Seg → Int → Int → zzI → zzI → zzB → zzB → zzZ → Prop) (x0 : List Seg → Int → Int → zzI → zzI → zzB → zzB → zzZ → Prop) (t13 t15 : Int) (t118 : List Seg) (t119 t120 qas qat qau qav : Int) (qbj qbk : zzI) (qbl qbm : zzB) (qbn : zzZ) : Prop := rec t118 t119 (w64 (t120 + 1)) qbj qbk qbl qbm qbn
def g_zh_s7 (rec : Int → Int → Int → Int → Int → zzI → zzI → zzB → zzB → zzZ → List (List Rect) → Prop) (x0 : Int → Int → Int → Int → Int → zzI → zzI → zzB → zzB → zzZ → List (List Rect) → Prop) (t4 t12 t13 t21 t22 : Int) (qbv qbw : zzI) (qbx qby : zzB) (qbz : zzZ) (qca : List (List Rect)) (i8 : Int → Int → Int → Int → Int → Int → Int → zzI → zzI → zzB → zzB → zzZ → List Par → List (List Rect) → Prop) : Prop := cond (decide (t22 < t21)) ((let v0 := ((qbz.getD t22.toNat default).getD t4.toNat default); (((0 ≤ t22 ∧ t22 < qbz.length) ∧ (0 ≤ t4 ∧ t4 < (qbz.getD t22.toNat default).length)) ∧ cond (decide (v0 < 0)) (((0 ≤ t22 ∧ t22 < qbz.length) ∧ ((0 ≤ t4 ∧ t4 < (qbz.getD t22.toNat default).length) ∧ i8 t4 t22 t12 t13 t21 t22 (qca.length : Int) qbv qbw qbx qby (qbz.set t22.toNat ((qbz.getD t22.toNat default).set t4.toNat (qca.length : Int))) ([(Par.mk t22 t4)]) qca))) ((let v1 := ((qbz.getD t22.toNat default).getD t4.toNat default); (((0 ≤ t22 ∧ t22 < qbz.length) ∧ (0 ≤ t4 ∧ t4 < (qbz.getD t22.toNat default).length)) ∧ ((0 ≤ v1 ∧ v1 < qca.length) ∧ ((0 ≤ t22 ∧ t22 < qbv.length) ∧ ((0 ≤ t4 ∧ t4 < qbw.length) ∧ ((0 ≤ (w64 (t22 + 1)) ∧ (w64 (t22 + 1)) < qbv.length) ∧ (let v2 := (qbv.getD ((w64 (t22 + 1)).toNat) default); ((0 ≤ t22 ∧ t22 < qbv.length) ∧ ((0 ≤ (w64 (t4 + 1)) ∧ (w64 (t4 + 1)) < qbw.length) ∧ ((0 ≤ t4 ∧ t4 < qbw.length) ∧ (let v3 := w64 ((qbw.getD ((w64 (t4 + 1)).toNat) default) - (qbw.getD t4.toNat default)); ((((qca.getD v1.toNat default).length + ([(Rect.mk (qbv.getD t22.toNat default) (qbw.getD t4.toNat default) (w64 (v2 - (qbv.getD t22.toNat default))) v3)]).length) * 32 ≤ 140737488355328) ∧ ((0 ≤ v1 ∧ v1 < (qca.set v1.toNat ((qca.getD v1.toNat default) ++ ([(Rect.mk (qbv.getD t22.toNat default) (qbw.getD t4.toNat default) (w64 (v2 - (qbv.getD t22.toNat default))) v3)]))).length) ∧ ((v1.toNat = v1.toNat ∧ v1.toNat = v1.toNat) ∧ rec t4 t12 t13 t21 (w64 (t22 + 1)) qbv qbw qbx qby qbz (qca.set v1.toNat ((qca.getD v1.toNat default) ++ ([(Rect.mk (qbv.getD t22.toNat default) (qbw.getD t4.toNat default) (w64 (v2 - (qbv.getD t22.toNat default))) v3)]))))))))))))))))))))) (x0 t4 t12 t13 t21 t22 qbv qbw qbx qby qbz qca)
def g_zh_c7_0 (rec : Int → Int → zzI → zzI → zzB → zzB → zzZ → List (List Rect) → Prop) (x0 : Int → Int → zzI → zzI → zzB → zzB → zzZ → List (List Rect) → Prop) (t4 t12 t13 t21 t22 : Int) (qbv qbw : zzI) (qbx qby : zzB) (qbz : zzZ) (qca : List (List Rect)) : Prop := rec t12 (w64 (t13 + 1)) qbv qbw qbx qby qbz qca
def g_zh_s8 (rec : Int → Int → Int → Int → Int → Int → Int → zzI → zzI → zzB → zzB → zzZ → List Par → List (List Rect) → Prop) (x0 : Int → Int → Int → Int → Int → Int → Int → zzI → zzI → zzB → zzB → zzZ → List Par → List (List Rect) → Prop) (qcf qcg qch qci qcj qck qaw : Int) (qbo qbp : zzI) (qbq qbr : zzB) (qbs : zzZ) (qbt : List Par) (qbu : List (List Rect)) : Prop := cond (decide (0 < (qbt.length : Int))) (((0 ≤ (w64 ((qbt.length : Int) - 1)) ∧ (w64 ((qbt.length : Int) - 1)) < qbt.length) ∧ ((0 ≤ (0 : Int) ∧ (0 : Int) < 2) ∧ (let v0 := (qbt.getD ((w64 ((qbt.length : Int) - 1)).toNat) default).e0; ((0 ≤ (w64 ((qbt.length : Int) - 1)) ∧ (w64 ((qbt.length : Int) - 1)) < qbt.length) ∧ ((0 ≤ (1 : Int) ∧ (1 : Int) < 2) ∧ (let v1 := (qbt.getD ((w64 ((qbt.length : Int) - 1)).toNat) default).e1; ((0 ≤ (w64 ((qbt.length : Int) - 1)) ∧ (w64 ((qbt.length : Int) - 1)) ≤ qbt.length) ∧ meetG ((decide (0 < v0)) = true → ((0 ≤ v0 ∧ v0 < qbq.length) ∧ 0 ≤ v1 ∧ v1 < (qbq.getD v0.toNat default).length)) ((decide (0 < v0)) && (!((qbq.getD v0.toNat default).getD v1.toNat default))) (ma (w64 (v0 - 1)) 0) v1 qaw qbs (qbt.take ((w64 ((qbt.length : Int) - 1)).toNat)) fun qbs qbt => meetG ((decide ((w64 (v0 + 2)) < (qbo.length : Int))) = true → ((0 ≤ (w64 (v0 + 1)) ∧ (w64 (v0 + 1)) < qbq.length) ∧ 0 ≤ v1 ∧ v1 < (qbq.getD ((w64 (v0 + 1)).toNat) default).length)) ((decide ((w64 (v0 + 2)) < (qbo.length : Int))) && (!((qbq.getD ((w64 (v0 + 1)).toNat) default).getD v1.toNat default))) (w64 (v0 + 1)) v1 qaw qbs qbt fun qbs qbt => meetG ((decide (0 < v1)) = true → ((0 ≤ v0 ∧ v0 < qbr.length) ∧ 0 ≤ v1 ∧ v1 < (qbr.getD v0.toNat default).length)) ((decide (0 < v1)) && (!((qbr.getD v0.toNat default).getD v1.toNat default))) v0 (ma (w64 (v1 - 1)) 0) qaw qbs qbt fun qbs qbt => meetG ((decide ((w64 (v1 + 2)) < (qbp.length : Int))) = true → ((0 ≤ v0 ∧ v0 < qbr.length) ∧ 0 ≤ (w64 (v1 + 1)) ∧ (w64 (v1 + 1)) < (qbr.getD v0.toNat default).length)) ((decide ((w64 (v1 + 2)) < (qbp.length : Int))) && (!((qbr.getD v0.toNat default).getD ((w64 (v1 + 1)).toNat) default))) v0 (w64 (v1 + 1)) qaw qbs qbt fun qbs qbt => rec qcf qcg qch qci qcj qck qaw qbo qbp qbq qbr qbs qbt qbu)))))))) (x0 qcf qcg qch qci qcj qck qaw qbo qbp qbq qbr qbs qbt qbu)
def g_zh_c8_0 (rec : Int → Int → Int → Int → Int → zzI → zzI → zzB → zzB → zzZ → List (List Rect) → Prop) (x0 : Int → Int → Int → Int → Int → zzI → zzI → zzB → zzB → zzZ → List (List Rect) → Prop) (qcf qcg qch qci qcj qck qaw : Int) (qbo qbp : zzI) (qbq qbr : zzB) (qbs : zzZ) (qbt : List Par) (qbu : List (List Rect)) : Prop := (((qbu.length + ([[]] : List (List Rect)).length) * 24 ≤ 140737488355328) ∧ (let v0 := ((qbs.getD qcg.toNat default).getD qcf.toNat default); (((0 ≤ qcg ∧ qcg < qbs.length) ∧ (0 ≤ qcf ∧ qcf < (qbs.getD qcg.toNat default).length)) ∧ ((0 ≤ v0 ∧ v0 < (qbu ++ ([[]] : List (List Rect))).length) ∧ ((0 ≤ qcg ∧ qcg < qbo.length) ∧ ((0 ≤ qcf ∧ qcf < qbp.length) ∧ ((0 ≤ (w64 (qcg + 1)) ∧ (w64 (qcg + 1)) < qbo.length) ∧ (let v1 := (qbo.getD ((w64 (qcg + 1)).toNat) default); ((0 ≤ qcg ∧ qcg < qbo.length) ∧ (let v2 := w64 (v1 - (qbo.getD qcg.toNat default)); ((0 ≤ (w64 (qcf + 1)) ∧ (w64 (qcf + 1)) < qbp.length) ∧ (let v3 := (qbp.getD ((w64 (qcf + 1)).toNat) default); ((0 ≤ qcf ∧ qcf < qbp.length) ∧ (let v4 := w64 (v3 - (qbp.getD qcf.toNat default)); (((((qbu ++ ([[]] : List (List Rect))).getD v0.toNat default).length + ([(Rect.mk (qbo.getD qcg.toNat default) (qbp.getD qcf.toNat default) v2 v4)]).length) * 32 ≤ 140737488355328) ∧ ((0 ≤ v0 ∧ v0 < ((qbu ++ ([[]] : List (List Rect))).set v0.toNat (((qbu ++ ([[]] : List (List Rect))).getD v0.toNat default) ++ ([(Rect.mk (qbo.getD qcg.toNat default) (qbp.getD qcf.toNat default) v2 v4)]))).length) ∧ ((v0.toNat = v0.toNat ∧ v0.toNat = v0.toNat) ∧ rec qcf qch qci qcj (w64 (qck + 1)) qbo qbp qbq qbr qbs ((qbu ++ ([[]] : List (List Rect))).set v0.toNat (((qbu ++ ([[]] : List (List Rect))).getD v0.toNat default) ++ ([(Rect.mk (qbo.getD qcg.toNat default) (qbp.getD qcf.toNat default) v2 v4)]))))))))))))))))))))
def w_zh_6 (F : Nat) (x0 : Int → Int → List Seg → Int → Int → Int → Int → Int → Int → zzI → zzI → zzB → zzB → zzZ → Prop) : Nat → Int → Int → List Seg → Int → Int → Int → Int → Int → Int → zzI → zzI → zzB → zzB → zzZ → Prop
 | 0, _, _, _, _, _, _, _, _, _, _, _, _, _, _ => False
 | n + 1, t13, t15, t118, t119, t120, qas, qat, qau, qav, qbj, qbk, qbl, qbm, qbn => g_zh_s6 (w_zh_6 F x0 n) x0 t13 t15 t118 t119 t120 qas qat qau qav qbj qbk qbl qbm qbn
def n_zh_6 (F : Nat) (rec : List Seg → Int → Int → zzI → zzI → zzB → zzB → zzZ → Prop) (x0 : List Seg → Int → Int → zzI → zzI → zzB → zzB → zzZ → Prop) (t13 t15 : Int) (t118 : List Seg) (t119 t120 qas qat qau qav : Int) (qbj qbk : zzI) (qbl qbm : zzB) (qbn : zzZ) : Prop := w_zh_6 F (fun t13 t15 t118 t119 t120 qas qat qau qav qbj qbk qbl qbm qbn => g_zh_c6_0 rec x0 t13 t15 t118 t119 t120 qas qat qau qav qbj qbk qbl qbm qbn) F t13 t15 t118 t119 t120 qas qat qau qav qbj qbk qbl qbm qbn
def w_zh_4 (F : Nat) (x0 : Int → Int → List Seg → Int → Int → Int → Int → Int → Int → zzI → zzI → zzB → zzB → zzZ → Prop) : Nat → Int → Int → List Seg → Int → Int → Int → Int → Int → Int → zzI → zzI → zzB → zzB → zzZ → Prop
 | 0, _, _, _, _, _, _, _, _, _, _, _, _, _, _ => False
 | n + 1, t13, t15, t118, t119, t120, qas, qat, qau, qav, qbj, qbk, qbl, qbm, qbn => g_zh_s4 (w_zh_4 F x0 n) x0 t13 t15 t118 t119 t120 qas qat qau qav qbj qbk qbl qbm qbn
def n_zh_4 (F : Nat) (rec : List Seg → Int → Int → zzI → zzI → zzB → zzB → zzZ → Prop) (x0 : List Seg → Int → Int → zzI → zzI → zzB → zzB → zzZ → Prop) (t13 t15 : Int) (t118 : List Seg) (t119 t120 qas qat qau qav : Int) (qbj qbk : zzI) (qbl qbm : zzB) (qbn : zzZ) : Prop := w_zh_4 F (fun t13 t15 t118 t119 t120 qas qat qau qav qbj qbk qbl qbm qbn => g_zh_c4_0 rec x0 t13 t15 t118 t119 t120 qas qat qau qav qbj qbk qbl qbm qbn (n_zh_6 F rec x0)) F t13 t15 t118 t119 t120 qas qat qau qav qbj qbk qbl qbm qbn
def w_zh_8 (F : Nat) (x0 : Int → Int → Int → Int → Int → Int → Int → zzI → zzI → zzB → zzB → zzZ → List Par → List (List Rect) → Prop) : Nat → Int → Int → Int → Int → Int → Int → Int → zzI → zzI → zzB → zzB → zzZ → List Par → List (List Rect) → Prop
 | 0, _, _, _, _, _, _, _, _, _, _, _, _, _, _ => False
 | n + 1, qcf, qcg, qch, qci, qcj, qck, qaw, qbo, qbp, qbq, qbr, qbs, qbt, qbu => g_zh_s8 (w_zh_8 F x0 n) x0 qcf qcg qch qci qcj qck qaw qbo qbp qbq qbr qbs qbt qbu
def n_zh_8 (F : Nat) (rec : Int → Int → Int → Int → Int → zzI → zzI → zzB → zzB → zzZ → List (List Rect) → Prop) (x0 : Int → Int → Int → Int → Int → zzI → zzI → zzB → zzB → zzZ → List (List Rect) → Prop) (qcf qcg qch qci qcj qck qaw : Int) (qbo qbp : zzI) (qbq qbr : zzB) (qbs : zzZ) (qbt : List Par) (qbu : List (List Rect)) : Prop := w_zh_8 F (fun qcf qcg qch qci qcj qck qaw qbo qbp qbq qbr qbs qbt qbu => g_zh_c8_0 rec x0 qcf qcg qch qci qcj qck qaw qbo qbp qbq qbr qbs qbt qbu) F qcf qcg qch qci qcj qck qaw qbo qbp qbq qbr qbs qbt qbu
def w_zh_7 (F : Nat) (x0 : Int → Int → Int → Int → Int → zzI → zzI → zzB → zzB → zzZ → List (List Rect) → Prop) : Nat → Int → Int → Int → Int → Int → zzI → zzI → zzB → zzB → zzZ → List (List Rect) → Prop
 | 0, _, _, _, _, _, _, _, _, _, _, _ => False
 | n + 1, t4, t12, t13, t21, t22, qbv, qbw, qbx, qby, qbz, qca => g_zh_s7 (w_zh_7 F x0 n) x0 t4 t12 t13 t21 t22 qbv qbw qbx qby qbz qca (n_zh_8 F (w_zh_7 F x0 n) x0)
def n_zh_7 (F : Nat) (rec : Int → Int → zzI → zzI → zzB → zzB → zzZ → List (List Rect) → Prop) (x0 : Int → Int → zzI → zzI → zzB → zzB → zzZ → List (List Rect) → Prop) (t4 t12 t13 t21 t22 : Int) (qbv qbw : zzI) (qbx qby : zzB) (qbz : zzZ) (qca : List (List Rect)) : Prop := w_zh_7 F (fun t4 t12 t13 t21 t22 qbv qbw qbx qby qbz qca => g_zh_c7_0 rec x0 t4 t12 t13 t21 t22 qbv qbw qbx qby qbz qca) F t4 t12 t13 t21 t22 qbv qbw qbx qby qbz qca
def w_zh_5 (F : Nat) (x0 : Int → Int → zzI → zzI → zzB → zzB → zzZ → List (List Rect) → Prop) : Nat → Int → Int → zzI → zzI → zzB → zzB → zzZ → List (List Rect) → Prop
 | 0, _, _, _, _, _, _, _, _ => False
 | n + 1, t12, t13, qbv, qbw, qbx, qby, qbz, qca => g_zh_s5 (w_zh_5 F x0 n) x0 t12 t13 qbv qbw qbx qby qbz qca (n_zh_7 F (w_zh_5 F x0 n) x0)
def n_zh_5 (F : Nat) (Q : List (List Rect) → Int → Prop) (t12 t13 : Int) (qbv qbw : zzI) (qbx qby : zzB) (qbz : zzZ) (qca : List (List Rect)) : Prop := w_zh_5 F (fun t12 t13 qbv qbw qbx qby qbz qca => g_zh_c5_0 Q t12 t13 qbv qbw qbx qby qbz qca) F t12 t13 qbv qbw qbx qby qbz qca
def w_zh_3 (F : Nat) (x0 : List Seg → Int → Int → zzI → zzI → zzB → zzB → zzZ → Prop) : Nat → List Seg → Int → Int → zzI → zzI → zzB → zzB → zzZ → Prop
 | 0, _, _, _, _, _, _, _, _ => False
 | n + 1, t118, t119, t120, qbj, qbk, qbl, qbm, qbn => g_zh_s3 (w_zh_3 F x0 n) x0 t118 t119 t120 qbj qbk qbl qbm qbn (n_zh_4 F (w_zh_3 F x0 n) x0)
def n_zh_3 (F : Nat) (Q : List (List Rect) → Int → Prop) (t118 : List Seg) (t119 t120 : Int) (qbj qbk : zzI) (qbl qbm : zzB) (qbn : zzZ) : Prop := w_zh_3 F (fun t118 t119 t120 qbj qbk qbl qbm qbn => g_zh_c3_0 Q t118 t119 t120 qbj qbk qbl qbm qbn (n_zh_5 F Q)) F t118 t119 t120 qbj qbk qbl qbm qbn
def w_zh_2 (F : Nat) (x0 : List Seg → Int → Int → zzI → zzI → zzB → zzB → zzZ → Prop) : Nat → List Seg → Int → Int → zzI → zzI → zzB → zzB → zzZ → Prop
 | 0, _, _, _, _, _, _, _, _ => False
 | n + 1, t1, t68, t69, qbj, qbk, qbl, qbm, qbn => g_zh_s2 (w_zh_2 F x0 n) x0 t1 t68 t69 qbj qbk qbl qbm qbn
def n_zh_2 (F : Nat) (Q : List (List Rect) → Int → Prop) (t1 : List Seg) (t68 t69 : Int) (qbj qbk : zzI) (qbl qbm : zzB) (qbn : zzZ) : Prop := w_zh_2 F (fun t1 t68 t69 qbj qbk qbl qbm qbn => g_zh_c2_0 Q t1 t68 t69 qbj qbk qbl qbm qbn (n_zh_3 F Q)) F t1 t68 t69 qbj qbk qbl qbm qbn
def w_zh_1 (F : Nat) (x0 : List Seg → List Seg → Int → Int → zzI → zzI → Prop) : Nat → List Seg → List Seg → Int → Int → zzI → zzI → Prop
 | 0, _, _, _, _, _, _ => False
 | n + 1, t1, t23, t24, t25, qbj, qbk => g_zh_s1 (w_zh_1 F x0 n) x0 t1 t23 t24 t25 qbj qbk
def n_zh_1 (F : Nat) (Q : List (List Rect) → Int → Prop) (t1 t23 : List Seg) (t24 t25 : Int) (qbj qbk : zzI) : Prop := w_zh_1 F (fun t1 t23 t24 t25 qbj qbk => g_zh_c1_0 Q t1 t23 t24 t25 qbj qbk (n_zh_2 F Q)) F t1 t23 t24 t25 qbj qbk
def w_zh_0 (F : Nat) (x0 : List Seg → Int → List Seg → Int → Int → ByteArray → ByteArray → Int → Int → Int → Int → List Rect → List Rect → Prop) (x1 : List Seg → Int → List Seg → Int → Int → ByteArray → ByteArray → Int → Int → Int → Int → List Rect → List Rect → Prop) : Nat → List Seg → Int → List Seg → Int → Int → ByteArray → ByteArray → Int → Int → Int → Int → List Rect → List Rect → Prop
 | 0, _, _, _, _, _, _, _, _, _, _, _, _, _ => False
 | n + 1, t1, t5, t19, t20, t21, c2_0, c2_1, c2_2, c2_3, c2_4, c2_5, c2_6, c2_7 => g_zh_s0 (w_zh_0 F x0 x1 n) x0 x1 t1 t5 t19 t20 t21 c2_0 c2_1 c2_2 c2_3 c2_4 c2_5 c2_6 c2_7
def n_zh_0 (F : Nat) (Q : List (List Rect) → Int → Prop) (t1 : List Seg) (t5 : Int) (t19 : List Seg) (t20 t21 : Int) (c2_0 c2_1 : ByteArray) (c2_2 c2_3 c2_4 c2_5 : Int) (c2_6 c2_7 : List Rect) : Prop := w_zh_0 F (fun t1 t5 t19 t20 t21 c2_0 c2_1 c2_2 c2_3 c2_4 c2_5 c2_6 c2_7 => g_zh_c0_0 Q t1 t5 t19 t20 t21 c2_0 c2_1 c2_2 c2_3 c2_4 c2_5 c2_6 c2_7) (fun t1 t5 t19 t20 t21 c2_0 c2_1 c2_2 c2_3 c2_4 c2_5 c2_6 c2_7 => g_zh_c0_1 Q t1 t5 t19 t20 t21 c2_0 c2_1 c2_2 c2_3 c2_4 c2_5 c2_6 c2_7 (n_zh_1 F Q)) F t1 t5 t19 t20 t21 c2_0 c2_1 c2_2 c2_3 c2_4 c2_5 c2_6 c2_7
def w_zh (F : Nat) (qe qf : ByteArray) (qg qh qa qb : Int) (qc qd : List Rect) (a1 : List Seg) (Q : List (List Rect) → Int → Prop) : Prop := g_zh_e qe qf qg qh qa qb qc qd a1 Q (n_zh_0 F Q)
set_option maxRecDepth 20000
def linB (nm mt : ByteArray) (g gr w h : Int) (cl us : List Rect) (s : Seg) : Bool := sp_zd nm mt g gr w h cl us s.X1 s.Y1 s.X2 s.Y2
def pre_zh (nm mt : ByteArray) (g gr w h : Int) (cl us : List Rect) (ls : List Seg) : Prop := True
def sp_zh (nm mt : ByteArray) (g gr w h : Int) (cl us : List Rect) (ls : List Seg) : List (List Rect) × Int :=
 cond (sp_zc nm mt g gr w h cl us != 0) ([], sp_zc nm mt g gr w h cl us) (cond (decide (200 < (ls.length : Int))) ([], 4) (cond (!(ls.all (linB nm mt g gr w h cl us))) ([], 1)
  (cond (decide (6000 < (((gxs w ls).length : Int) - 1) * (((gys h ls).length : Int) - 1))) ([], 4) (partsG w h ls, 0))))
theorem linB_iff {nm mt : ByteArray} {g gr w h : Int} {cl us : List Rect} {s : Seg} : linB nm mt g gr w h cl us s = true ↔ segOK w h s := by
 have e : ∀ a b, sp_zl nm mt g gr w h cl us a b = true ↔ (0 ≤ a ∧ a ≤ w ∧ 0 ≤ b ∧ b ≤ h) := fun a b => by
  unfold sp_zl
  simp only [Bool.and_eq_true, decide_eq_true_eq, and_assoc]
 have e1 := e s.X1 s.Y1
 have e2 := e s.X2 s.Y2
 unfold linB sp_zd segOK
 cases q1 : sp_zl nm mt g gr w h cl us s.X1 s.Y1 with
 | false =>
  rw [q1] at e1
  simp only [Bool.not_false, Bool.true_or, cond_true]
  refine ⟨(fun z => by cases z), fun z => ?_⟩
  exact e1.2 (by omega)
 | true =>
  rw [q1] at e1
  cases q2 : sp_zl nm mt g gr w h cl us s.X2 s.Y2 with
  | false =>
   rw [q2] at e2
   simp only [Bool.not_false, Bool.or_true, cond_true]
   refine ⟨(fun z => by cases z), fun z => ?_⟩
   exact e2.2 (by omega)
  | true =>
   rw [q2] at e2
   have a1 := e1.1 rfl
   have a2 := e2.1 rfl
   simp only [Bool.not_true, Bool.or_self, cond_false, Bool.or_eq_true, Bool.and_eq_true, beq_iff_eq, decide_eq_true_eq]
   omega
theorem sheet_size {nm mt : ByteArray} {g gr w h : Int} {cl us : List Rect} (h1 : (sp_zc nm mt g gr w h cl us != 0) = false) : 1 ≤ w ∧ w ≤ 1048576 ∧ 1 ≤ h ∧ h ≤ 1048576 := by
 unfold sp_zc at h1
 revert h1
 cases ((!(vn nm)) || (!(vn mt)))
 ·simp only [cond_false]
  cases q : (((!(sp_zao g gr)) || (!(sp_zap w 1 1048576))) || (!(sp_zap h 1 1048576)))
  ·intro _
   simp only [Bool.or_eq_false_iff, Bool.not_eq_false'] at q
   obtain ⟨⟨_, q1⟩, q2⟩ := q
   unfold sp_zap at q1 q2
   simp only [Bool.and_eq_true, decide_eq_true_eq] at q1 q2
   omega
  ·simp
 ·simp
abbrev LI := zzI
abbrev LB := zzB
abbrev XS := LI → LI → LB → LB → zzZ → Prop
abbrev X4 := Int → Int → List Seg → Int → Int → Int → Int → Int → Int → XS
abbrev X3 := List Seg → Int → Int → XS
abbrev X5 := Int → Int → LI → LI → LB → LB → zzZ → List (List Rect) → Prop
abbrev X7 := Int → Int → Int → X5
abbrev X8 := Int → Int → Int → Int → Int → Int → Int → LI → LI → LB → LB → zzZ → List Par → List (List Rect) → Prop
theorem lp1 (F : Nat) (x0 : List Seg → List Seg → Int → Int → LI → LI → Prop) (ls : List Seg) (hl : ls.length ≤ 200) : ∀ (n i : Nat) (xs ys : LI), i ≤ ls.length → ls.length < n + i → xs.length = 2 + 2 * i → ys.length = 2 + 2 * i →
  x0 ls ls ls.length ls.length (xs ++ (ls.drop i).flatMap fun s => [s.X1, s.X2]) (ys ++ (ls.drop i).flatMap fun s => [s.Y1, s.Y2]) → w_zh_1 F x0 n ls ls ls.length i xs ys := by
 intro n
 induction n with
 | zero => intro i xs ys h1 h2; omega
 | succ n ih =>
  intro i xs ys h1 h2 h3 h4 hx
  show g_zh_s1 _ _ _ _ _ _ _ _
  unfold g_zh_s1
  by_cases h : i < ls.length
  ·rw [dec_t (show (i : Int) < ls.length by omega), cond_true]
   simp only [Int.toNat_natCast]
   refine ⟨⟨by omega, by omega⟩, by simp only [List.length_cons, List.length_nil]; omega, by simp only [List.length_cons, List.length_nil]; omega, ?_⟩
   rw [w64_succ h (by omega)]
   refine ih (i + 1) _ _ (by omega) (by omega) (by simp; omega) (by simp; omega) ?_
   rw [drop_getD ls i h, List.flatMap_cons, List.flatMap_cons, ← List.append_assoc, ← List.append_assoc] at hx
   exact hx
  ·have e : i = ls.length := by omega
   subst e
   rw [dec_f (by omega), cond_false]
   rw [List.drop_length] at hx
   simpa using hx
theorem lp2 (F : Nat) (x0 : X3) (ls : List Seg) (xs ys : LI) (h1 : xs.length ≤ 1000) (h2 : ys.length ≤ 1000) (hx : x0 ls xs.length xs.length xs ys (List.replicate xs.length (List.replicate ys.length false)) (List.replicate xs.length (List.replicate ys.length false)) (List.replicate xs.length (List.replicate ys.length (-1)))) :
  ∀ (n i : Nat), i ≤ xs.length → xs.length < n + i → w_zh_2 F x0 n ls xs.length i xs ys (List.replicate i (List.replicate ys.length false)) (List.replicate i (List.replicate ys.length false)) (List.replicate i (List.replicate ys.length (-1))) := by
 intro n
 induction n with
 | zero => intro i h3 h4; omega
 | succ n ih =>
  intro i h3 h4
  show g_zh_s2 _ _ _ _ _ _ _ _ _ _
  unfold g_zh_s2
  by_cases h : i < xs.length
  ·rw [dec_t (show (i : Int) < xs.length by omega), cond_true]
   simp only [Int.toNat_natCast, List.length_replicate]
   refine ⟨⟨by omega, by trivial, by omega⟩, by omega, ⟨by omega, by trivial, by omega⟩, by omega, ⟨rfl, by omega, by omega⟩, by omega, ?_⟩
   rw [w64_succ h (by omega)]
   have e : sp_zat [-1] (ys.length : Int) = List.replicate ys.length (-1) := by
    unfold sp_zat
    rw [Int.toNat_natCast]
    rfl
   rw [e, ← List.replicate_succ', ← List.replicate_succ']
   exact ih (i + 1) (by omega) (by omega)
  ·have e : i = xs.length := by omega
   subst e
   rw [dec_f (by omega), cond_false]
   exact hx
theorem lp4 (F : Nat) (x0 : X4) (ls : List Seg) (t119 t120 c0 c1 c2 c3 : Int) (xs ys : LI) (lf : LB) (part : zzZ) (k : Nat) (hk : k < ys.length) (hx1 : xs.length ≤ 1000) (hs : asc xs) (hm : c2 ∈ xs) :
  ∀ (n a : Nat) (bl : LB) (f : Nat → Nat → Bool), Tab xs.length ys.length bl f → xs.length < n + a →
  (∀ b bl', (b = max a (below_ xs c2)) → Tab xs.length ys.length bl' (fun i j => f i j || decide (a ≤ i ∧ i < below_ xs c2 ∧ j = k)) → x0 b k ls t119 t120 c0 c1 c2 c3 xs ys lf bl' part) →
  a < xs.length → w_zh_4 F x0 n a k ls t119 t120 c0 c1 c2 c3 xs ys lf bl part := by
 obtain ⟨hb, hbv⟩ := below_mem hs hm
 intro n
 induction n with
 | zero => intro a bl f h1 h2 h3 h4; omega
 | succ n ih =>
  intro a bl f hT h2 hx ha
  show g_zh_s4 _ _ _ _ _ _ _ _ _ _ _ _ _ _ _ _
  unfold g_zh_s4
  simp only [Int.toNat_natCast]
  refine ⟨⟨by omega, by omega⟩, ?_⟩
  have hlt := below_lt xs c2 hs.le a ha
  by_cases h : a < below_ xs c2
  ·rw [dec_t (hlt.2 h), cond_true]
   have hr := hT.2.1 a ha
   have hl := hT.1
   refine ⟨⟨⟨by omega, by omega⟩, by omega, by omega⟩, ?_⟩
   rw [w64_succ ha (by omega)]
   refine ih (a + 1) _ _ (hT.set ha hk) (by omega) (fun b bl' hb' hT' => hx b bl' (by omega) (hT'.congr fun i j hi hj => ?_)) (by omega)
   rw [Bool.or_assoc]
   congr 1
   rw [Bool.eq_iff_iff]
   simp only [Bool.or_eq_true, decide_eq_true_eq]
   omega
  ·rw [dec_f (fun q => h (hlt.1 q)), cond_false]
   refine hx a bl (by omega) (hT.congr fun i j hi hj => ?_)
   rw [decide_eq_false (by omega), Bool.or_false]
theorem lp6 (F : Nat) (x0 : X4) (ls : List Seg) (t119 t120 c0 c1 c2 c3 : Int) (xs ys : LI) (bl : LB) (part : zzZ) (b : Nat) (hb : b < xs.length) (hx1 : ys.length ≤ 1000) (hs : asc ys) (hm : c3 ∈ ys) :
  ∀ (n a : Nat) (lf : LB) (f : Nat → Nat → Bool), Tab xs.length ys.length lf f → ys.length < n + a →
  (∀ t lf', Tab xs.length ys.length lf' (fun i j => f i j || decide (i = b ∧ a ≤ j ∧ j < below_ ys c3)) → x0 b t ls t119 t120 c0 c1 c2 c3 xs ys lf' bl part) →
  a < ys.length → w_zh_6 F x0 n b a ls t119 t120 c0 c1 c2 c3 xs ys lf bl part := by
 obtain ⟨hbb, hbv⟩ := below_mem hs hm
 intro n
 induction n with
 | zero => intro a lf f h1 h2 h3 h4; omega
 | succ n ih =>
  intro a lf f hT h2 hx ha
  show g_zh_s6 _ _ _ _ _ _ _ _ _ _ _ _ _ _ _ _
  unfold g_zh_s6
  simp only [Int.toNat_natCast]
  refine ⟨⟨by omega, by omega⟩, ?_⟩
  have hlt := below_lt ys c3 hs.le a ha
  by_cases h : a < below_ ys c3
  ·rw [dec_t (hlt.2 h), cond_true]
   have hr := hT.2.1 b hb
   have hl := hT.1
   refine ⟨⟨⟨by omega, by omega⟩, by omega, by omega⟩, ?_⟩
   rw [w64_succ ha (by omega)]
   refine ih (a + 1) _ _ (hT.set hb ha) (by omega) (fun t lf' hT' => hx t lf' (hT'.congr fun i j hi hj => ?_)) (by omega)
   rw [Bool.or_assoc]
   congr 1
   rw [Bool.eq_iff_iff]
   simp only [Bool.or_eq_true, decide_eq_true_eq]
   omega
  ·rw [dec_f (fun q => h (hlt.1 q)), cond_false]
   refine hx a lf (hT.congr fun i j hi hj => ?_)
   rw [decide_eq_false (by omega), Bool.or_false]
theorem lfG_snoc (xs ys : LI) (ls : List Seg) (s : Seg) (i k : Nat) : lfG xs ys (ls ++ [s]) i k = (lfG xs ys ls i k || decide (i = below_ xs s.X1 ∧ below_ ys s.Y1 ≤ k ∧ k < below_ ys s.Y2)) := by
 unfold lfG
 simp
theorem blG_snoc (xs ys : LI) (ls : List Seg) (s : Seg) (i k : Nat) : blG xs ys (ls ++ [s]) i k = (blG xs ys ls i k || decide (below_ xs s.X1 ≤ i ∧ i < below_ xs s.X2 ∧ k = below_ ys s.Y1)) := by
 unfold blG
 simp
theorem take_snoc {α : Type} [Inhabited α] (l : List α) (i : Nat) (h : i < l.length) : l.take (i + 1) = l.take i ++ [l.getD i default] := by
 rw [List.take_add_one, List.getD_eq_getElem?_getD, List.getElem?_eq_getElem h]
 rfl
theorem lp3 (F : Nat) (x0 : X3) (ls : List Seg) (hl : ls.length ≤ 200) (w h : Int) (xs ys : LI) (hx1 : xs.length ≤ 1000) (hy1 : ys.length ≤ 1000) (hsx : asc xs) (hsy : asc ys) (hF : 2000 < F) (part : zzZ)
  (hls : ∀ s ∈ ls, segOK w h s ∧ s.X1 ∈ xs ∧ s.X2 ∈ xs ∧ s.Y1 ∈ ys ∧ s.Y2 ∈ ys)
  (hx : ∀ lf bl, Tab xs.length ys.length lf (lfG xs ys ls) → Tab xs.length ys.length bl (blG xs ys ls) → x0 ls ls.length ls.length xs ys lf bl part) :
  ∀ (n i : Nat) (lf bl : LB), i ≤ ls.length → ls.length < n + i → Tab xs.length ys.length lf (lfG xs ys (ls.take i)) → Tab xs.length ys.length bl (blG xs ys (ls.take i)) → w_zh_3 F x0 n ls ls.length i xs ys lf bl part := by
 intro n
 induction n with
 | zero => intro i lf bl h1 h2; omega
 | succ n ih =>
  intro i lf bl h1 h2 hT hU
  show g_zh_s3 _ _ _ _ _ _ _ _ _ _ _
  unfold g_zh_s3
  by_cases hi : i < ls.length
  ·rw [dec_t (show (i : Int) < ls.length by omega), cond_true]
   simp only [Int.toNat_natCast]
   have hms : ls.getD i default ∈ ls := by
    rw [List.getD_eq_getElem?_getD, List.getElem?_eq_getElem hi, Option.getD_some]
    exact List.getElem_mem _
   have hT2 := take_snoc ls i hi
   generalize ls.getD i default = s at hms hT2
   obtain ⟨⟨ho1, ho2⟩, m1, m2, m3, m4⟩ := hls s hms
   refine ⟨⟨by omega, by omega⟩, ⟨hsx.le, by omega⟩, ⟨hsy.le, by omega⟩, ?_⟩
   show w_zh_4 F (fun t13 t15 t118 t119 t120 qas qat qau qav qbj qbk qbl qbm qbn => g_zh_c4_0 (w_zh_3 F x0 n) x0 t13 t15 t118 t119 t120 qas qat qau qav qbj qbk qbl qbm qbn (n_zh_6 F (w_zh_3 F x0 n) x0)) F (below_ xs s.X1 : Nat) (below_ ys s.Y1 : Nat) ls ls.length i s.X1 s.Y1 s.X2 s.Y2 xs ys lf bl part
   obtain ⟨b1, v1⟩ := below_mem hsx m1
   obtain ⟨b2, v2⟩ := below_mem hsx m2
   obtain ⟨b3, v3⟩ := below_mem hsy m3
   obtain ⟨b4, v4⟩ := below_mem hsy m4
   have mono : ∀ {l : LI}, asc l → ∀ {x y : Int}, x ∈ l → y ∈ l → x ≤ y → below_ l x ≤ below_ l y := fun {l} hl {x y} hx hy hxy => by
    obtain ⟨c1, u1⟩ := below_mem hl hx
    obtain ⟨c2, u2⟩ := below_mem hl hy
    by_cases q : below_ l x ≤ below_ l y
    ·exact q
    ·have := hl.get (show below_ l y < below_ l x by omega) c1
     omega
   have g1 := mono hsx m1 m2 (by omega)
   refine lp4 F _ ls _ _ _ _ _ _ xs ys lf part (below_ ys s.Y1) b3 hx1 hsx m2 F (below_ xs s.X1) bl _ hU (by omega) (fun b bl' hb hU' => ?_) b1
   have hb2 : b = below_ xs s.X2 := by omega
   subst hb2
   show w_zh_6 F (fun t13 t15 t118 t119 t120 qas qat qau qav qbj qbk qbl qbm qbn => g_zh_c6_0 (w_zh_3 F x0 n) x0 t13 t15 t118 t119 t120 qas qat qau qav qbj qbk qbl qbm qbn) F (below_ xs s.X2 : Nat) (below_ ys s.Y1 : Nat) ls ls.length i s.X1 s.Y1 s.X2 s.Y2 xs ys lf bl' part
   refine lp6 F _ ls _ _ _ _ _ _ xs ys bl' part (below_ xs s.X2) b2 hy1 hsy m4 F (below_ ys s.Y1) lf _ hT (by omega) (fun t lf' hT' => ?_) b3
   show w_zh_3 F x0 n ls ls.length (w64 ((i : Int) + 1)) xs ys lf' bl' part
   rw [w64_succ hi (by omega)]
   refine ih (i + 1) lf' bl' (by omega) (by omega) (hT'.congr fun a c ha hc => ?_) (hU'.congr fun a c ha hc => ?_)
   ·rw [hT2, lfG_snoc]
    congr 1
    rw [decide_eq_decide]
    rcases ho2 with ⟨q1, q2⟩ | ⟨q1, q2⟩
    ·rw [q1]
     omega
    ·rw [q1]
   ·rw [hT2, blG_snoc]
  ·have e : i = ls.length := by omega
   subst e
   rw [dec_f (by omega), cond_false]
   rw [List.take_length] at hT hU
   exact hx lf bl hT hU
theorem s8_eq (rec x0 : X8) (t4 t5 t12 t13 t21 t22 n : Int) (xs ys : LI) (lf bl : LB) (part : zzZ) (todo : List Par) (out : List (List Rect)) :
  g_zh_s8 rec x0 t4 t5 t12 t13 t21 t22 n xs ys lf bl part todo out =
  cond (decide (0 < (todo.length : Int))) (((0 ≤ (w64 ((todo.length : Int) - 1)) ∧ (w64 ((todo.length : Int) - 1)) < todo.length) ∧ ((0 ≤ (0 : Int) ∧ (0 : Int) < 2) ∧ (let v0 := (todo.getD ((w64 ((todo.length : Int) - 1)).toNat) default).e0;
   ((0 ≤ (w64 ((todo.length : Int) - 1)) ∧ (w64 ((todo.length : Int) - 1)) < todo.length) ∧ ((0 ≤ (1 : Int) ∧ (1 : Int) < 2) ∧ (let v1 := (todo.getD ((w64 ((todo.length : Int) - 1)).toNat) default).e1;
   ((0 ≤ (w64 ((todo.length : Int) - 1)) ∧ (w64 ((todo.length : Int) - 1)) ≤ todo.length) ∧
   meetG ((decide (0 < v0)) = true → ((0 ≤ v0 ∧ v0 < lf.length) ∧ 0 ≤ v1 ∧ v1 < (lf.getD v0.toNat default).length)) ((decide (0 < v0)) && (!((lf.getD v0.toNat default).getD v1.toNat default))) (ma (w64 (v0 - 1)) 0) v1 n part (todo.take ((w64 ((todo.length : Int) - 1)).toNat)) fun part todo =>
   meetG ((decide ((w64 (v0 + 2)) < (xs.length : Int))) = true → ((0 ≤ (w64 (v0 + 1)) ∧ (w64 (v0 + 1)) < lf.length) ∧ 0 ≤ v1 ∧ v1 < (lf.getD ((w64 (v0 + 1)).toNat) default).length)) ((decide ((w64 (v0 + 2)) < (xs.length : Int))) && (!((lf.getD ((w64 (v0 + 1)).toNat) default).getD v1.toNat default))) (w64 (v0 + 1)) v1 n part todo fun part todo =>
   meetG ((decide (0 < v1)) = true → ((0 ≤ v0 ∧ v0 < bl.length) ∧ 0 ≤ v1 ∧ v1 < (bl.getD v0.toNat default).length)) ((decide (0 < v1)) && (!((bl.getD v0.toNat default).getD v1.toNat default))) v0 (ma (w64 (v1 - 1)) 0) n part todo fun part todo =>
   meetG ((decide ((w64 (v1 + 2)) < (ys.length : Int))) = true → ((0 ≤ v0 ∧ v0 < bl.length) ∧ 0 ≤ (w64 (v1 + 1)) ∧ (w64 (v1 + 1)) < (bl.getD v0.toNat default).length)) ((decide ((w64 (v1 + 2)) < (ys.length : Int))) && (!((bl.getD v0.toNat default).getD ((w64 (v1 + 1)).toNat) default))) v0 (w64 (v1 + 1)) n part todo fun part todo =>
   rec t4 t5 t12 t13 t21 t22 n xs ys lf bl part todo out)))))))) (x0 t4 t5 t12 t13 t21 t22 n xs ys lf bl part todo out) := rfl
theorem lp8 (F : Nat) (x0 : X8) (t4 t5 t12 t13 t21 t22 : Int) (xs ys : LI) (lf bl : LB) (f g : Nat → Nat → Bool) (w h n : Nat) (hw : xs.length = w + 1) (hh : ys.length = h + 1) (hw1 : w ≤ 1000) (hh1 : h ≤ 1000)
  (hT : Tab xs.length ys.length lf f) (hU : Tab xs.length ys.length bl g) (out : List (List Rect)) (L0 : Pl → Option Nat) (c0 : Pl) (h0 : L0 c0 = none) (hf : ∀ d, L0 d ≠ some n)
  (hx : ∀ part', Arr cdP w h part' (fillA (nbs w h f g) L0 c0 n) → x0 t4 t5 t12 t13 t21 t22 n xs ys lf bl part' [] out) :
  ∀ (m : Nat) (L : Pl → Option Nat) (S : List Pl) (part : zzZ) (todo : List Par), Arr cdP w h part L → todo = S.map encP → WInv (nbs w h f g) (cellsOf w h) L0 c0 n (fun _ => False) L S → free (cellsOf w h) L + S.length ≤ 1000000 → free (cellsOf w h) L + S.length < m →
   w_zh_8 F x0 m t4 t5 t12 t13 t21 t22 n xs ys lf bl part todo out := by
 intro m
 induction m with
 | zero => intro L S part todo A hTd W hr hm; omega
 | succ m ih =>
  intro L S part todo A hTd W hr hm
  show g_zh_s8 _ _ _ _ _ _ _ _ _ _ _ _ _ _ _ _
  rw [s8_eq]
  rcases List.eq_nil_or_concat S with rfl | ⟨S', c, rfl⟩
  ·subst hTd
   rw [dec_f (by simp), cond_false]
   refine hx part ?_
   rw [← W.done h0]
   exact A
  ·rw [List.concat_eq_append] at hTd W hr hm
   obtain ⟨hcn, hcc⟩ := W.mem c (by simp)
   obtain ⟨i, k⟩ := c
   obtain ⟨hci, hck⟩ := mem_cellsOf.1 hcc
   replace hci : i < w := hci
   replace hck : k < h := hck
   rw [List.length_append, List.length_singleton] at hr hm
   have hlen : todo.length = S'.length + 1 := by rw [hTd]; simp
   have e1 : w64 ((todo.length : Int) - 1) = (S'.length : Nat) := by
    rw [hlen, w64_of (by omega) (by omega)]
    omega
   have e2 : todo.getD S'.length default = encP (i, k) := by
    rw [hTd, List.map_append, List.getD_eq_getElem?_getD, List.getElem?_append_right (by simp)]
    simp
   have e3 : todo.take S'.length = S'.map encP := by
    rw [hTd, List.map_append]
    exact List.take_left' (by simp)
   rw [dec_t (show (0 : Int) < (todo.length : Int) by omega), cond_true, e1]
   have e4 : (encP (i, k)).e0 = (i : Int) := rfl
   have e5 : (encP (i, k)).e1 = (k : Int) := rfl
   have e6 : w64 ((i : Int) + 1) = ((i + 1 : Nat) : Int) := by rw [w64_of (by omega) (by omega)]; omega
   have e7 : w64 ((k : Int) + 1) = ((k + 1 : Nat) : Int) := by rw [w64_of (by omega) (by omega)]; omega
   have e8 : w64 ((i : Int) + 2) = (i : Int) + 2 := w64_of (by omega) (by omega)
   have e9 : w64 ((k : Int) + 2) = (k : Int) + 2 := w64_of (by omega) (by omega)
   have e10 : ma (w64 ((i : Int) - 1)) 0 = ((i - 1 : Nat) : Int) := by
    rw [w64_of (by omega) (by omega)]
    unfold ma
    omega
   have e11 : ma (w64 ((k : Int) - 1)) 0 = ((k - 1 : Nat) : Int) := by
    rw [w64_of (by omega) (by omega)]
    unfold ma
    omega
   obtain ⟨T1, T2, T3⟩ := hT
   obtain ⟨U1, U2, U3⟩ := hU
   simp only [Int.toNat_natCast, e2, e3, e4, e5, e6, e7, e8, e9, e10, e11]
   refine ⟨by first | omega | trivial, by first | omega | trivial, by first | omega | trivial, by first | omega | trivial, by first | omega | trivial, ?_⟩
   have hnb : nbs w h f g (i, k) = (if 0 < i ∧ f i k = false then [(i - 1, k)] else []) ++ (if i + 1 < w ∧ f (i + 1) k = false then [(i + 1, k)] else []) ++ (if 0 < k ∧ g i k = false then [(i, k - 1)] else []) ++ (if k + 1 < h ∧ g i (k + 1) = false then [(i, k + 1)] else []) := by
    unfold nbs
    rw [if_pos ⟨hci, hck⟩]
   refine meetG_of (w := w) (h := h) (L := L) (S := S') (n := n) (l := if 0 < i ∧ f i k = false then [(i - 1, k)] else []) A rfl (by omega) (fun q => ?_) ?_ fun part1 todo1 s1 hs1 A1 hT1 hr1 => ?_
   ·have := T2 i (by omega)
    omega
   ·by_cases p : 0 < i ∧ f i k = false
    ·refine .inr ⟨?_, i - 1, k, rfl, rfl, by omega, hck, if_pos p⟩
     rw [dec_t (by omega), T3 i k (by omega) (by omega), p.2]
     rfl
    ·refine .inl ⟨?_, if_neg p⟩
     rw [T3 i k (by omega) (by omega)]
     by_cases q : 0 < i
     ·have : f i k = true := by
       cases z : f i k with
       | true => rfl
       | false => exact absurd ⟨q, z⟩ p
      rw [this]
      simp
     ·rw [dec_f (by omega)]
      rfl
   refine meetG_of (w := w) (h := h) (L := s1.1) (S := s1.2) (n := n) (l := if i + 1 < w ∧ f (i + 1) k = false then [(i + 1, k)] else []) A1 hT1 hr1 (fun q => ?_) ?_ fun part2 todo2 s2 hs2 A2 hT2 hr2 => ?_
   ·have := T2 (i + 1) (by omega)
    omega
   ·by_cases p : i + 1 < w ∧ f (i + 1) k = false
    ·refine .inr ⟨?_, i + 1, k, rfl, rfl, by omega, hck, if_pos p⟩
     rw [dec_t (by omega), T3 (i + 1) k (by omega) (by omega), p.2]
     rfl
    ·refine .inl ⟨?_, if_neg p⟩
     rw [T3 (i + 1) k (by omega) (by omega)]
     by_cases q : i + 1 < w
     ·have : f (i + 1) k = true := by
       cases z : f (i + 1) k with
       | true => rfl
       | false => exact absurd ⟨q, z⟩ p
      rw [this]
      simp
     ·rw [dec_f (by omega)]
      rfl
   refine meetG_of (w := w) (h := h) (L := s2.1) (S := s2.2) (n := n) (l := if 0 < k ∧ g i k = false then [(i, k - 1)] else []) A2 hT2 hr2 (fun q => ?_) ?_ fun part3 todo3 s3 hs3 A3 hT3 hr3 => ?_
   ·have := U2 i (by omega)
    omega
   ·by_cases p : 0 < k ∧ g i k = false
    ·refine .inr ⟨?_, i, k - 1, rfl, rfl, hci, by omega, if_pos p⟩
     rw [dec_t (by omega), U3 i k (by omega) (by omega), p.2]
     rfl
    ·refine .inl ⟨?_, if_neg p⟩
     rw [U3 i k (by omega) (by omega)]
     by_cases q : 0 < k
     ·have : g i k = true := by
       cases z : g i k with
       | true => rfl
       | false => exact absurd ⟨q, z⟩ p
      rw [this]
      simp
     ·rw [dec_f (by omega)]
      rfl
   refine meetG_of (w := w) (h := h) (L := s3.1) (S := s3.2) (n := n) (l := if k + 1 < h ∧ g i (k + 1) = false then [(i, k + 1)] else []) A3 hT3 hr3 (fun q => ?_) ?_ fun part4 todo4 s4 hs4 A4 hT4 hr4 => ?_
   ·have := U2 i (by omega)
    have := of_decide_eq_true q
    omega
   ·by_cases p : k + 1 < h ∧ g i (k + 1) = false
    ·refine .inr ⟨?_, i, k + 1, rfl, rfl, hci, by omega, if_pos p⟩
     rw [dec_t (by omega), U3 i (k + 1) (by omega) (by omega), p.2]
     rfl
    ·refine .inl ⟨?_, if_neg p⟩
     rw [U3 i (k + 1) (by omega) (by omega)]
     by_cases q : k + 1 < h
     ·have : g i (k + 1) = true := by
       cases z : g i (k + 1) with
       | true => rfl
       | false => exact absurd ⟨q, z⟩ p
      rw [this]
      simp
     ·rw [dec_f (by omega)]
      rfl
   have hv : visit n (nbs w h f g (i, k)) (L, S') = s4 := by
    rw [hnb]
    unfold visit at hs1 hs2 hs3 hs4 ⊢
    rw [List.foldl_append, List.foldl_append, List.foldl_append, hs4, hs3, hs2, hs1]
   have hfree := visit_free (n := n) (cells := cellsOf w h) (nbs w h f g (i, k)) (L, S') (fun e he => nbs_cells he)
   rw [hv] at hfree
   simp only at hfree
   have hW := W.next (c := (i, k)) (rest := S') (l := nbs w h f g (i, k)) (by simp) (fun d hd => by
    rcases List.mem_append.1 hd with q | q
    ·exact .inr q
    ·exact .inl (List.mem_singleton.1 q)) (fun d hd => List.mem_append_left _ hd) hf (fun e he => ⟨he, nbs_cells he⟩) (fun e he => he)
   rw [hv] at hW
   exact ih s4.1 s4.2 part4 todo4 A4 hT4 hW hr4 (by omega)
def preC (w k i : Nat) : List Pl := cellsOf w k ++ (List.range i).map fun i => (i, k)
theorem preC_succ (w k i : Nat) : preC w k (i + 1) = preC w k i ++ [(i, k)] := by
 unfold preC
 rw [List.range_succ, List.map_append, List.append_assoc]
 rfl
theorem preC_row (w k : Nat) : preC w k w = preC w (k + 1) 0 := by
 unfold preC cellsOf
 rw [List.range_succ, List.flatMap_append]
 simp
theorem preC_len (w k i : Nat) : (preC w k i).length = k * w + i := by
 unfold preC
 rw [List.length_append, cellsOf_len]
 simp
theorem free_le (cells : List Pl) (L : Pl → Option Nat) : free cells L ≤ cells.length := List.length_filter_le _ _
theorem lp7 (F : Nat) (x0 : X7) (xs ys : LI) (lf bl : LB) (f g : Nat → Nat → Bool) (w h : Nat) (hw : xs.length = w + 1) (hh : ys.length = h + 1) (hw1 : w ≤ 1000) (hh1 : h ≤ 1000) (hF : 1000000 < F + 1) (hwh : h * w ≤ 10000)
  (hbx : ∀ j, j < xs.length → 0 ≤ xs.getD j default ∧ xs.getD j default ≤ 1048576) (hby : ∀ j, j < ys.length → 0 ≤ ys.getD j default ∧ ys.getD j default ≤ 1048576)
  (hT : Tab xs.length ys.length lf f) (hU : Tab xs.length ys.length bl g) (k : Nat) (hk : k < h)
  (hx : ∀ part' out' L', sepRun (nbs w h f g) (rectG xs ys) (preC w k w) (fun _ => none, []) = (L', out') → Arr cdP w h part' L' → x0 k h k w w xs ys lf bl part' out') :
  ∀ (n i : Nat) (part : zzZ) (out : List (List Rect)) (L : Pl → Option Nat), i ≤ w → w < n + i → sepRun (nbs w h f g) (rectG xs ys) (preC w k i) (fun _ => none, []) = (L, out) → Arr cdP w h part L →
   w_zh_7 F x0 n k h k w i xs ys lf bl part out := by
 intro n
 induction n with
 | zero => intro i part out L h1 h2; omega
 | succ n ih =>
  intro i part out L h1 h2 hrun A
  show g_zh_s7 _ _ _ _ _ _ _ _ _ _ _ _ _ _
  unfold g_zh_s7
  by_cases hi : i < w
  ·rw [dec_t (show (i : Int) < (w : Int) by omega), cond_true]
   have hinv := SInv.run (nbs_sym (w := w) (h := h) (lf := f) (bl := g)) (rect := rectG xs ys) (preC w k i) [] (fun _ => none, []) (SInv.nil _ _)
   rw [hrun, List.nil_append] at hinv
   simp only at hinv
   have hpl : (preC w k i).length ≤ 10000 := by
    rw [preC_len]
    have : (k + 1) * w ≤ h * w := Nat.mul_le_mul_right w hk
    rw [Nat.succ_mul] at this
    omega
   have hol : out.length ≤ 10000 := by
    have := sepRun_len (nbs w h f g) (rectG xs ys) (preC w k i) (fun _ => none, [])
    rw [hrun] at this
    simp at this
    omega
   have hml : ∀ j, (out.getD j default).length ≤ 10000 := fun j => by
    refine Nat.le_trans (flatten_mem_len out j) ?_
    rw [hinv.perm.length_eq, List.length_map]
    exact hpl
   have hnext : sepRun (nbs w h f g) (rectG xs ys) (preC w k (i + 1)) (fun _ => none, []) = sepStep (nbs w h f g) (rectG xs ys) (L, out) (i, k) := by
    rw [preC_succ, sepRun_append, hrun]
    rfl
   obtain ⟨A1, A2, A3⟩ := id A
   have a2 := A2 i hi
   have a3 := A3 i k hi hk
   have e1 : w64 ((i : Int) + 1) = ((i + 1 : Nat) : Int) := by rw [w64_of (by omega) (by omega)]; omega
   have e2 : w64 ((k : Int) + 1) = ((k + 1 : Nat) : Int) := by rw [w64_of (by omega) (by omega)]; omega
   have er : Rect.mk (xs.getD i default) (ys.getD k default) (w64 (xs.getD (i + 1) default - xs.getD i default)) (w64 (ys.getD (k + 1) default - ys.getD k default)) = rectG xs ys (i, k) := by
    have b1 := hbx i (by omega)
    have b2 := hbx (i + 1) (by omega)
    have b3 := hby k (by omega)
    have b4 := hby (k + 1) (by omega)
    rw [w64_of (by omega) (by omega), w64_of (by omega) (by omega)]
    rfl
   simp only [Int.toNat_natCast, e1, e2, er, a3]
   refine ⟨⟨⟨by omega, by omega⟩, by omega, by omega⟩, ?_⟩
   cases hL : L (i, k) with
   | none =>
    rw [hL] at a3
    rw [dec_t ((cdP_neg none).2 rfl), cond_true]
    refine ⟨⟨by omega, by omega⟩, ⟨by omega, by omega⟩, ?_⟩
    show w_zh_8 F (fun qcf qcg qch qci qcj qck qaw qbo qbp qbq qbr qbs qbt qbu => g_zh_c8_0 (w_zh_7 F x0 n) x0 qcf qcg qch qci qcj qck qaw qbo qbp qbq qbr qbs qbt qbu) F k i h k w i (out.length : Nat) xs ys lf bl (part.set i ((part.getD i default).set k (out.length : Nat))) [Par.mk i k] out
    have hf : ∀ d, L d ≠ some out.length := fun d q => by
     have := hinv.bound d _ q
     omega
    have hcm : (i, k) ∈ cellsOf w h := mem_cellsOf.2 ⟨hi, hk⟩
    have hfl := free_le (cellsOf w h) (upd L (i, k) out.length)
    rw [cellsOf_len] at hfl
    refine lp8 F _ _ _ _ _ _ _ xs ys lf bl f g w h out.length hw hh hw1 hh1 hT hU out L (i, k) hL hf (fun part' A' => ?_) F (upd L (i, k) out.length) [(i, k)] _ _ (A.set hi hk) rfl (WInv.init hL hcm hf) (by simp; omega) (by simp; omega)
    obtain ⟨B1, B2, B3⟩ := id A'
    have b2 := B2 i hi
    have b3 := B3 i k hi hk
    have hcc : fillA (nbs w h f g) L (i, k) out.length (i, k) = some out.length := by
     unfold fillA
     rw [if_pos .base]
    rw [hcc] at b3
    show g_zh_c8_0 _ _ _ _ _ _ _ _ _ _ _ _ _ _ _ _
    unfold g_zh_c8_0
    have b4 : (part'.getD i default).getD k default = ((out.length : Nat) : Int) := b3
    have hg0 : (out ++ [[]]).getD out.length default = ([] : List Rect) := by simp
    have hlen2 : (out ++ [([] : List Rect)]).length = out.length + 1 := by simp
    simp only [Int.toNat_natCast, e1, e2, er, b4, hlen2, hg0, List.length_set, List.length_nil, List.length_singleton, List.nil_append]
    refine ⟨by omega, ⟨⟨by omega, by omega⟩, by omega, by omega⟩, ⟨by omega, by omega⟩, ⟨by omega, by omega⟩, ⟨by omega, by omega⟩, ⟨by omega, by omega⟩, ⟨by omega, by omega⟩, ⟨by omega, by omega⟩, ⟨by omega, by omega⟩, by omega, ⟨by omega, by omega⟩, ⟨by trivial, by trivial⟩, ?_⟩
    refine ih (i + 1) _ _ (fillA (nbs w h f g) L (i, k) out.length) (by omega) (by omega) ?_ A'
    rw [hnext]
    unfold sepStep
    simp only [hL, if_true, hcc, Option.getD_some, hg0, List.nil_append]
   | some j =>
    rw [hL] at a3
    have hjb := hinv.bound _ _ hL
    have hj0 : cdP (some j) = ((j : Nat) : Int) := rfl
    have hm := hml j
    simp only [hj0, Int.toNat_natCast, List.length_set, List.length_singleton]
    rw [dec_f (show ¬ ((j : Nat) : Int) < 0 by omega), cond_false]
    refine ⟨⟨⟨by omega, by omega⟩, by omega, by omega⟩, ⟨by omega, by omega⟩, ⟨by omega, by omega⟩, ⟨by omega, by omega⟩, ⟨by omega, by omega⟩, ⟨by omega, by omega⟩, ⟨by omega, by omega⟩, ⟨by omega, by omega⟩, by omega, ⟨by omega, by omega⟩, ⟨by trivial, by trivial⟩, ?_⟩
    refine ih (i + 1) _ _ L (by omega) (by omega) ?_ A
    rw [hnext]
    unfold sepStep
    simp only [hL, Option.getD_some, reduceCtorEq, if_false]
  ·have e : i = w := by omega
   subst e
   rw [dec_f (by omega), cond_false]
   exact hx part out L hrun A
theorem lp5 (F : Nat) (x0 : X5) (xs ys : LI) (lf bl : LB) (f g : Nat → Nat → Bool) (w h : Nat) (hw : xs.length = w + 1) (hh : ys.length = h + 1) (hw1 : w ≤ 1000) (hh1 : h ≤ 1000) (hF : 1000000 < F + 1) (hwh : h * w ≤ 10000)
  (hbx : ∀ j, j < xs.length → 0 ≤ xs.getD j default ∧ xs.getD j default ≤ 1048576) (hby : ∀ j, j < ys.length → 0 ≤ ys.getD j default ∧ ys.getD j default ≤ 1048576)
  (hT : Tab xs.length ys.length lf f) (hU : Tab xs.length ys.length bl g)
  (hx : ∀ part, x0 h h xs ys lf bl part (sepA (nbs w h f g) (rectG xs ys) (cellsOf w h))) :
  ∀ (n k : Nat) (part : zzZ) (out : List (List Rect)) (L : Pl → Option Nat), k ≤ h → h < n + k → sepRun (nbs w h f g) (rectG xs ys) (preC w k 0) (fun _ => none, []) = (L, out) → Arr cdP w h part L →
   w_zh_5 F x0 n h k xs ys lf bl part out := by
 intro n
 induction n with
 | zero => intro k part out L h1 h2; omega
 | succ n ih =>
  intro k part out L h1 h2 hrun A
  show g_zh_s5 _ _ _ _ _ _ _ _ _ _ _
  unfold g_zh_s5
  by_cases hk : k < h
  ·rw [dec_t (show (k : Int) < (h : Int) by omega), cond_true]
   have e1 : w64 ((xs.length : Int) - 1) = (w : Nat) := by
    rw [w64_of (by omega) (by omega)]
    omega
   rw [e1]
   show w_zh_7 F (fun t4 t12 t13 t21 t22 qbv qbw qbx qby qbz qca => g_zh_c7_0 (w_zh_5 F x0 n) x0 t4 t12 t13 t21 t22 qbv qbw qbx qby qbz qca) F k h k w (0 : Nat) xs ys lf bl part out
   refine lp7 F _ xs ys lf bl f g w h hw hh hw1 hh1 hF hwh hbx hby hT hU k hk (fun part' out' L' hrun' A' => ?_) F 0 part out L (by omega) (by omega) hrun A
   show w_zh_5 F x0 n h (w64 ((k : Int) + 1)) xs ys lf bl part' out'
   rw [w64_succ hk (by omega)]
   rw [preC_row] at hrun'
   exact ih (k + 1) part' out' L' (by omega) (by omega) hrun' A'
  ·have e : k = h := by omega
   subst e
   rw [dec_f (by omega), cond_false]
   have e2 : preC w k 0 = cellsOf w k := by
    unfold preC
    simp
   rw [e2] at hrun
   have := hx part
   unfold sepA at this
   rw [hrun] at this
   exact this
theorem arr_rep (w h : Nat) (m n : Nat) (hw : w ≤ m) (hh : h ≤ n) : Arr cdP w h (List.replicate m (List.replicate n (-1))) (fun _ => none) := by
 have e : ∀ i, i < m → (List.replicate m (List.replicate n (-1 : Int))).getD i default = List.replicate n (-1) := fun i hi => by
  rw [List.getD_eq_getElem?_getD, List.getElem?_replicate, if_pos hi]
  rfl
 refine ⟨by simpa using hw, fun i hi => by rw [e i (by omega)]; simpa using hh, fun i k hi hk => ?_⟩
 rw [e i (by omega), List.getD_eq_getElem?_getD, List.getElem?_replicate, if_pos (by omega)]
 rfl
theorem getD_mem_ {l : LI} {j : Nat} (h : j < l.length) : l.getD j default ∈ l := by
 rw [List.getD_eq_getElem?_getD, List.getElem?_eq_getElem h, Option.getD_some]
 exact List.getElem_mem _
theorem ok_zh (qe qf : ByteArray) (qg qh qa qb : Int) (qc qd : List Rect) (a1 : List Seg) (h : pre_zh qe qf qg qh qa qb qc qd a1) : ∃ F, ∀ Q : List (List Rect) → Int → Prop, Q ((sp_zh qe qf qg qh qa qb qc qd a1).1) ((sp_zh qe qf qg qh qa qb qc qd a1).2) → w_zh F qe qf qg qh qa qb qc qd a1 Q := by
 refine ⟨1000001, fun Q hQ => ?_⟩
 generalize hFq : 1000001 = F
 have hF : 1000000 < F := by omega
 clear hFq
 unfold w_zh g_zh_e
 unfold sp_zh at hQ
 dsimp only
 cases h1 : (sp_zc qe qf qg qh qa qb qc qd != 0) with
 | true =>
  rw [h1] at hQ
  exact hQ
 | false =>
 rw [h1] at hQ
 simp only [cond_false] at hQ ⊢
 by_cases h2 : 200 < (a1.length : Int)
 ·rw [dec_t h2] at hQ ⊢
  exact hQ
 rw [dec_f h2] at hQ ⊢
 simp only [cond_false] at hQ ⊢
 obtain ⟨w1, w2, w3, w4⟩ := sheet_size h1
 refine all_loop0 a1 (linB qe qf qg qh qa qb qc qd) (by omega) (fun n i => w_zh_0 F _ _ n a1 0 a1 a1.length i qe qf qg qh qa qb qc qd) _ _ (fun n i => rfl) F (by omega) (fun q j => ?_) (fun q => ?_)
 ·rw [q] at hQ
  exact hQ
 rw [q] at hQ
 simp only [Bool.not_true, cond_false] at hQ
 have hok : ∀ s ∈ a1, segOK qa qb s := fun s hs => linB_iff.1 (List.all_eq_true.1 q s hs)
 show w_zh_1 F (fun t1 t23 t24 t25 qbj qbk => g_zh_c1_0 Q t1 t23 t24 t25 qbj qbk (n_zh_2 F Q)) F a1 a1 a1.length (0 : Nat) [0, qa] [0, qb]
 refine lp1 F _ a1 (by omega) F 0 _ _ (by omega) (by omega) rfl rfl ?_
 rw [List.drop_zero]
 show g_zh_c1_0 _ _ _ _ _ _ _ _
 unfold g_zh_c1_0
 have lx : ([0, qa] ++ a1.flatMap fun s => [s.X1, s.X2]).length = 2 + 2 * a1.length := by rw [List.length_append, flat2_len]; rfl
 have ly : ([0, qb] ++ a1.flatMap fun s => [s.Y1, s.Y2]).length = 2 + 2 * a1.length := by rw [List.length_append, flat2_len]; rfl
 refine ⟨by omega, by omega, ?_⟩
 have gx := gxs_len qa a1
 have gy := gys_len qb a1
 have px := gxs_pos qa a1
 have py := gys_pos qb a1
 have ax := gxs_asc qa a1
 have ay := gys_asc qb a1
 have mx := fun x => gxs_mem (w := qa) (ls := a1) (x := x)
 have my := fun x => gys_mem (h := qb) (ls := a1) (x := x)
 unfold partsG nbG at hQ
 change cond (decide (6000 < w64 ((w64 (((gxs qa a1).length : Int) - 1)) * (w64 (((gys qb a1).length : Int) - 1))))) (Q [] 4) (n_zh_2 F Q a1 ((gxs qa a1).length : Int) 0 (gxs qa a1) (gys qb a1) [] [] [])
 generalize gxs qa a1 = xs at *
 generalize gys qb a1 = ys at *
 have hxw : ∃ w : Nat, xs.length = w + 1 := ⟨xs.length - 1, by omega⟩
 have hyh : ∃ w : Nat, ys.length = w + 1 := ⟨ys.length - 1, by omega⟩
 obtain ⟨w, hw⟩ := hxw
 obtain ⟨hh, hhh⟩ := hyh
 have ew : ((xs.length : Int) - 1) = (w : Nat) := by omega
 have eh : ((ys.length : Int) - 1) = (hh : Nat) := by omega
 have ew' : xs.length - 1 = w := by omega
 have eh' : ys.length - 1 = hh := by omega
 have hmul : w * hh ≤ 1000 * 1000 := Nat.mul_le_mul (by omega) (by omega)
 have emul : (w : Int) * (hh : Int) = ((w * hh : Nat) : Int) := by push_cast; rfl
 rw [ew, eh, emul, ew', eh'] at hQ
 rw [ew, eh, w64_of (n := (w : Int)) (by omega) (by omega), w64_of (n := (hh : Int)) (by omega) (by omega), emul, w64_of (by omega) (by omega)]
 by_cases h3 : 6000 < ((w * hh : Nat) : Int)
 ·rw [dec_t h3] at hQ ⊢
  exact hQ
 rw [dec_f h3] at hQ ⊢
 simp only [cond_false] at hQ ⊢
 have hls : ∀ s ∈ a1, segOK qa qb s ∧ s.X1 ∈ xs ∧ s.X2 ∈ xs ∧ s.Y1 ∈ ys ∧ s.Y2 ∈ ys := fun s hs =>
  ⟨hok s hs, (mx _).2 (.inr (.inr ⟨s, hs, .inl rfl⟩)), (mx _).2 (.inr (.inr ⟨s, hs, .inr rfl⟩)), (my _).2 (.inr (.inr ⟨s, hs, .inl rfl⟩)), (my _).2 (.inr (.inr ⟨s, hs, .inr rfl⟩))⟩
 have hbx : ∀ j, j < xs.length → 0 ≤ xs.getD j default ∧ xs.getD j default ≤ 1048576 := fun j hj => by
  rcases (mx _).1 (getD_mem_ hj) with e | e | ⟨s, hs, e⟩
  ·omega
  ·omega
  ·have := (hok s hs).1
   omega
 have hby : ∀ j, j < ys.length → 0 ≤ ys.getD j default ∧ ys.getD j default ≤ 1048576 := fun j hj => by
  rcases (my _).1 (getD_mem_ hj) with e | e | ⟨s, hs, e⟩
  ·omega
  ·omega
  ·have := (hok s hs).1
   omega
 show w_zh_2 F (fun t1 t68 t69 qbj qbk qbl qbm qbn => g_zh_c2_0 Q t1 t68 t69 qbj qbk qbl qbm qbn (n_zh_3 F Q)) F a1 xs.length (0 : Nat) xs ys (List.replicate 0 (List.replicate ys.length false)) (List.replicate 0 (List.replicate ys.length false)) (List.replicate 0 (List.replicate ys.length (-1)))
 refine lp2 F _ a1 xs ys (by omega) (by omega) ?_ F 0 (by omega) (by omega)
 show w_zh_3 F (fun t118 t119 t120 qbj qbk qbl qbm qbn => g_zh_c3_0 Q t118 t119 t120 qbj qbk qbl qbm qbn (n_zh_5 F Q)) F a1 a1.length (0 : Nat) xs ys _ _ _
 refine lp3 F _ a1 (by omega) qa qb xs ys (by omega) (by omega) ax ay (by omega) _ hls (fun lf bl hT hU => ?_) F 0 _ _ (by omega) (by omega) (Tab.rep _ _) (Tab.rep _ _)
 show w_zh_5 F (fun t12 t13 qbv qbw qbx qby qbz qca => g_zh_c5_0 Q t12 t13 qbv qbw qbx qby qbz qca) F (w64 ((ys.length : Int) - 1)) (0 : Nat) xs ys lf bl _ []
 rw [eh, w64_of (by omega) (by omega)]
 refine lp5 F _ xs ys lf bl _ _ w hh hw hhh (by omega) (by omega) (by omega) (by rw [Nat.mul_comm]; omega) hbx hby hT hU (fun part => ?_) F 0 _ [] (fun _ => none) (by omega) (by omega) ?_ (arr_rep w hh _ _ (by omega) (by omega))
 ·exact hQ
 ·unfold preC cellsOf
  rfl
def M_zs : Nat → Nat → Nat → Canon UU := fun o b r => cond (Nat.beq o 0 && Nat.beq b 0) ⟨[1, 2, 4, 5, 7, 8, 9], [2], [(.tmp 7, 208, .int), (.tmp 8, 209, .int)], [], []⟩ (cond (Nat.beq o 112000 && Nat.beq b 0) ⟨[0, 1, 5, 6, 1000001, 1000007, 1000008], [208, 209, 112010], [(.cell 112010 2, 112055, .bools), (.cell 112010 3, 112056, .bools), (.cell 112010 4, 112057, .ints)], [], [112055, 112056, 112057]⟩ (cond (Nat.beq o 0 && Nat.beq b 2) ⟨[1, 7, 8, 11, 12], [208, 209, 112010], [(.cell 112010 2, 210, .bools), (.cell 112010 3, 211, .bools), (.cell 112010 4, 212, .ints)], [], [210, 211, 212]⟩ (cond (Nat.beq o 124000 && Nat.beq b 0) ⟨[0, 3, 4, 5, 1000001, 1000007, 1000008, 1000011, 1000012], [208, 209, 112010, 124003], [(.cell 112010 2, 124099, .bools), (.cell 112010 3, 124100, .bools), (.cell 112010 4, 124101, .ints)], [], [124099, 124100, 124101]⟩ (cond (Nat.beq o 124000 && Nat.beq b 2) ⟨[0, 3, 6, 7, 1000001, 1000007, 1000008, 1000011, 1000012], [208, 209, 112010, 124003], [(.cell 112010 2, 124099, .bools), (.cell 112010 3, 124100, .bools), (.cell 112010 4, 124101, .ints)], [], [124099, 124100, 124101]⟩ (cond (Nat.beq o 0 && Nat.beq b 4) ⟨[7, 8, 11, 13, 14], [208, 209, 112010], [(.cell 112010 2, 210, .bools), (.cell 112010 3, 211, .bools), (.cell 112010 4, 212, .ints), (.tmp 13, 213, .rects)], [], [210, 211, 212, 213]⟩ (cond (Nat.beq o 0 && Nat.beq b 6) ⟨[7, 8, 11, 13, 14, 15], [208, 209, 112010], [(.cell 112010 2, 210, .bools), (.cell 112010 3, 211, .bools), (.cell 112010 4, 212, .ints), (.tmp 13, 213, .rects)], [], [210, 211, 212, 213]⟩ (cond (Nat.beq o 158000 && Nat.beq b 0) ⟨[0, 3, 8, 9, 10, 11, 1000007, 1000008, 1000011, 1000013, 1000014, 1000015], [208, 209, 112010], [(.tmp 10, 158215, .cell), (.tmp 1000013, 158216, .rects), (.cell 112010 2, 158217, .bools), (.cell 112010 3, 158218, .bools), (.cell 112010 4, 158219, .ints)], [], [158216, 158217, 158218, 158219]⟩ (cond (Nat.beq o 158000 && Nat.beq b 2) ⟨[0, 3, 8, 9, 10, 11, 13, 14, 1000007, 1000008, 1000011, 1000013, 1000014, 1000015], [208, 209, 112010], [(.tmp 10, 158215, .cell), (.tmp 13, 158216, .cell), (.tmp 1000013, 158217, .rects), (.cell 112010 2, 158218, .bools), (.cell 112010 3, 158219, .bools), (.cell 112010 4, 158220, .ints)], [], [158217, 158218, 158219, 158220]⟩ (⟨[], [], [], [], []⟩)))))))))
def st_zs_0 (t1 : List Seg) (t5 t9 : Int) (c2_0 c2_1 : ByteArray) (c2_2 c2_3 c2_4 c2_5 : Int) (c2_6 c2_7 : List Rect) (l208 l209 : zzI) : ASt UU := ⟨fun u => cond (Nat.beq u 1) (.sl .seg t1) (cond (Nat.beq u 2) (.ptr 2 0) (cond (Nat.beq u 4) (.nils) (cond (Nat.beq u 5) (.int .i64 t5) (cond (Nat.beq u 7) (.osl 208 0) (cond (Nat.beq u 8) (.osl 209 0) (cond (Nat.beq u 9) (.int .i64 t9) (.any))))))), fun u => cond (Nat.beq u 208) (some (.row .int 0 l208)) (cond (Nat.beq u 209) (some (.row .int 0 l209)) (cond (Nat.beq u 2) (some (.cells [.str c2_0, .str c2_1, .int .i64 c2_2, .int .i64 c2_3, .int .i64 c2_4, .int .i64 c2_5, .sl .rect c2_6, .sl .rect c2_7])) (none)))⟩
def st_zs_1 (t6 : Int) (qcb : List Seg) (l208 l209 : zzI) (qax qay : zzB) (qaz : zzZ) : ASt UU := ⟨fun u => cond (Nat.beq u 0) (.osl 208 0) (cond (Nat.beq u 1) (.osl 209 0) (cond (Nat.beq u 5) (.ptr 112010 0) (cond (Nat.beq u 6) (.int .i64 t6) (cond (Nat.beq u 1000001) (.sl .seg qcb) (cond (Nat.beq u 1000007) (.osl 208 0) (cond (Nat.beq u 1000008) (.osl 209 0) (.any))))))), fun u => cond (Nat.beq u 112055) (some (.deep .bools 0 0 qax)) (cond (Nat.beq u 112056) (some (.deep .bools 0 0 qay)) (cond (Nat.beq u 112057) (some (.deep .ints 0 0 qaz)) (cond (Nat.beq u 208) (some (.row .int 0 l208)) (cond (Nat.beq u 209) (some (.row .int 0 l209)) (cond (Nat.beq u 112010) (some (.cells [.osl 208 0, .osl 209 0, .osl 112055 0, .osl 112056 0, .osl 112057 0])) (none))))))⟩
def st_zs_2 (t1 : List Seg) (t12 : Int) (l208 l209 : zzI) (l210 l211 : zzB) (l212 : zzZ) : ASt UU := ⟨fun u => cond (Nat.beq u 1) (.sl .seg t1) (cond (Nat.beq u 7) (.osl 208 0) (cond (Nat.beq u 8) (.osl 209 0) (cond (Nat.beq u 11) (.ptr 112010 0) (cond (Nat.beq u 12) (.int .i64 t12) (.any))))), fun u => cond (Nat.beq u 210) (some (.deep .bools 0 0 l210)) (cond (Nat.beq u 211) (some (.deep .bools 0 0 l211)) (cond (Nat.beq u 212) (some (.deep .ints 0 0 l212)) (cond (Nat.beq u 208) (some (.row .int 0 l208)) (cond (Nat.beq u 209) (some (.row .int 0 l209)) (cond (Nat.beq u 112010) (some (.cells [.osl 208 0, .osl 209 0, .osl 210 0, .osl 211 0, .osl 212 0])) (none))))))⟩
def st_zs_3 (t4 t5 : Int) (qcb : List Seg) (qcc : Int) (l208 l209 : zzI) (qao qap qaq qar : Int) (qba qbb : zzB) (qbc : zzZ) : ASt UU := ⟨fun u => cond (Nat.beq u 0) (.ptr 112010 0) (cond (Nat.beq u 3) (.ptr 124003 0) (cond (Nat.beq u 4) (.int .i64 t4) (cond (Nat.beq u 5) (.int .i64 t5) (cond (Nat.beq u 1000001) (.sl .seg qcb) (cond (Nat.beq u 1000007) (.osl 208 0) (cond (Nat.beq u 1000008) (.osl 209 0) (cond (Nat.beq u 1000011) (.ptr 112010 0) (cond (Nat.beq u 1000012) (.int .i64 qcc) (.any))))))))), fun u => cond (Nat.beq u 124099) (some (.deep .bools 0 0 qba)) (cond (Nat.beq u 124100) (some (.deep .bools 0 0 qbb)) (cond (Nat.beq u 124101) (some (.deep .ints 0 0 qbc)) (cond (Nat.beq u 208) (some (.row .int 0 l208)) (cond (Nat.beq u 209) (some (.row .int 0 l209)) (cond (Nat.beq u 112010) (some (.cells [.osl 208 0, .osl 209 0, .osl 124099 0, .osl 124100 0, .osl 124101 0])) (cond (Nat.beq u 124003) (some (.cells [.int .i64 qao, .int .i64 qap, .int .i64 qaq, .int .i64 qar])) (none)))))))⟩
def st_zs_4 (t6 t7 : Int) (qcb : List Seg) (qcc : Int) (l208 l209 : zzI) (qao qap qaq qar : Int) (qba qbb : zzB) (qbc : zzZ) : ASt UU := ⟨fun u => cond (Nat.beq u 0) (.ptr 112010 0) (cond (Nat.beq u 3) (.ptr 124003 0) (cond (Nat.beq u 6) (.int .i64 t6) (cond (Nat.beq u 7) (.int .i64 t7) (cond (Nat.beq u 1000001) (.sl .seg qcb) (cond (Nat.beq u 1000007) (.osl 208 0) (cond (Nat.beq u 1000008) (.osl 209 0) (cond (Nat.beq u 1000011) (.ptr 112010 0) (cond (Nat.beq u 1000012) (.int .i64 qcc) (.any))))))))), fun u => cond (Nat.beq u 124099) (some (.deep .bools 0 0 qba)) (cond (Nat.beq u 124100) (some (.deep .bools 0 0 qbb)) (cond (Nat.beq u 124101) (some (.deep .ints 0 0 qbc)) (cond (Nat.beq u 208) (some (.row .int 0 l208)) (cond (Nat.beq u 209) (some (.row .int 0 l209)) (cond (Nat.beq u 112010) (some (.cells [.osl 208 0, .osl 209 0, .osl 124099 0, .osl 124100 0, .osl 124101 0])) (cond (Nat.beq u 124003) (some (.cells [.int .i64 qao, .int .i64 qap, .int .i64 qaq, .int .i64 qar])) (none)))))))⟩
def st_zs_5 (t14 : Int) (l208 l209 : zzI) (l210 l211 : zzB) (l212 : zzZ) (l213 : List (List Rect)) : ASt UU := ⟨fun u => cond (Nat.beq u 7) (.osl 208 0) (cond (Nat.beq u 8) (.osl 209 0) (cond (Nat.beq u 11) (.ptr 112010 0) (cond (Nat.beq u 13) (.osl 213 0) (cond (Nat.beq u 14) (.int .i64 t14) (.any))))), fun u => cond (Nat.beq u 210) (some (.deep .bools 0 0 l210)) (cond (Nat.beq u 211) (some (.deep .bools 0 0 l211)) (cond (Nat.beq u 212) (some (.deep .ints 0 0 l212)) (cond (Nat.beq u 213) (some (.deep .rects 0 0 l213)) (cond (Nat.beq u 208) (some (.row .int 0 l208)) (cond (Nat.beq u 209) (some (.row .int 0 l209)) (cond (Nat.beq u 112010) (some (.cells [.osl 208 0, .osl 209 0, .osl 210 0, .osl 211 0, .osl 212 0])) (none)))))))⟩
def st_zs_6 (t14 t15 : Int) (l208 l209 : zzI) (l210 l211 : zzB) (l212 : zzZ) (l213 : List (List Rect)) : ASt UU := ⟨fun u => cond (Nat.beq u 7) (.osl 208 0) (cond (Nat.beq u 8) (.osl 209 0) (cond (Nat.beq u 11) (.ptr 112010 0) (cond (Nat.beq u 13) (.osl 213 0) (cond (Nat.beq u 14) (.int .i64 t14) (cond (Nat.beq u 15) (.int .i64 t15) (.any)))))), fun u => cond (Nat.beq u 210) (some (.deep .bools 0 0 l210)) (cond (Nat.beq u 211) (some (.deep .bools 0 0 l211)) (cond (Nat.beq u 212) (some (.deep .ints 0 0 l212)) (cond (Nat.beq u 213) (some (.deep .rects 0 0 l213)) (cond (Nat.beq u 208) (some (.row .int 0 l208)) (cond (Nat.beq u 209) (some (.row .int 0 l209)) (cond (Nat.beq u 112010) (some (.cells [.osl 208 0, .osl 209 0, .osl 210 0, .osl 211 0, .osl 212 0])) (none)))))))⟩
def st_zs_7 (t3 t8 t9 t11 qcd qce : Int) (l208 l209 : zzI) (qbd : List Cel) (qbe : List (List Rect)) (qbf qbg : zzB) (qbh : zzZ) : ASt UU := ⟨fun u => cond (Nat.beq u 0) (.ptr 112010 0) (cond (Nat.beq u 3) (.int .i64 t3) (cond (Nat.beq u 8) (.int .i64 t8) (cond (Nat.beq u 9) (.int .i64 t9) (cond (Nat.beq u 10) (.osl 158215 0) (cond (Nat.beq u 11) (.int .i64 t11) (cond (Nat.beq u 1000007) (.osl 208 0) (cond (Nat.beq u 1000008) (.osl 209 0) (cond (Nat.beq u 1000011) (.ptr 112010 0) (cond (Nat.beq u 1000013) (.osl 158216 0) (cond (Nat.beq u 1000014) (.int .i64 qcd) (cond (Nat.beq u 1000015) (.int .i64 qce) (.any)))))))))))), fun u => cond (Nat.beq u 158215) (some (.row .cell 0 qbd)) (cond (Nat.beq u 158216) (some (.deep .rects 0 0 qbe)) (cond (Nat.beq u 158217) (some (.deep .bools 0 0 qbf)) (cond (Nat.beq u 158218) (some (.deep .bools 0 0 qbg)) (cond (Nat.beq u 158219) (some (.deep .ints 0 0 qbh)) (cond (Nat.beq u 208) (some (.row .int 0 l208)) (cond (Nat.beq u 209) (some (.row .int 0 l209)) (cond (Nat.beq u 112010) (some (.cells [.osl 208 0, .osl 209 0, .osl 158217 0, .osl 158218 0, .osl 158219 0])) (none))))))))⟩
def st_zs_8 (t3 t8 t9 t11 t14 qcd qce : Int) (l208 l209 : zzI) (qbd qbe : List Cel) (qbf : List (List Rect)) (qbg qbh : zzB) (qbi : zzZ) : ASt UU := ⟨fun u => cond (Nat.beq u 0) (.ptr 112010 0) (cond (Nat.beq u 3) (.int .i64 t3) (cond (Nat.beq u 8) (.int .i64 t8) (cond (Nat.beq u 9) (.int .i64 t9) (cond (Nat.beq u 10) (.osl 158215 0) (cond (Nat.beq u 11) (.int .i64 t11) (cond (Nat.beq u 13) (.osl 158216 0) (cond (Nat.beq u 14) (.int .i64 t14) (cond (Nat.beq u 1000007) (.osl 208 0) (cond (Nat.beq u 1000008) (.osl 209 0) (cond (Nat.beq u 1000011) (.ptr 112010 0) (cond (Nat.beq u 1000013) (.osl 158217 0) (cond (Nat.beq u 1000014) (.int .i64 qcd) (cond (Nat.beq u 1000015) (.int .i64 qce) (.any)))))))))))))), fun u => cond (Nat.beq u 158215) (some (.row .cell 0 qbd)) (cond (Nat.beq u 158216) (some (.row .cell 0 qbe)) (cond (Nat.beq u 158217) (some (.deep .rects 0 0 qbf)) (cond (Nat.beq u 158218) (some (.deep .bools 0 0 qbg)) (cond (Nat.beq u 158219) (some (.deep .bools 0 0 qbh)) (cond (Nat.beq u 158220) (some (.deep .ints 0 0 qbi)) (cond (Nat.beq u 208) (some (.row .int 0 l208)) (cond (Nat.beq u 209) (some (.row .int 0 l209)) (cond (Nat.beq u 112010) (some (.cells [.osl 208 0, .osl 209 0, .osl 158218 0, .osl 158219 0, .osl 158220 0])) (none)))))))))⟩
def g_zs_e (qe qf : ByteArray) (qg qh qa qb : Int) (qc qd : List Rect) (a1 : List Seg) (Q : List (List Rect) → Int → Prop) (i0 : List Seg → Int → Int → ByteArray → ByteArray → Int → Int → Int → Int → List Rect → List Rect → zzI → zzI → Prop) : Prop := (let r0 := (sp_zb qe qf qg qh qa qb qc qd); ((pre_zb qe qf qg qh qa qb qc qd) ∧ cond (r0 != 0) (Q ([]) r0) (cond (decide (200 < (a1.length : Int))) (Q ([]) 4) (i0 a1 0 0 qe qf qg qh qa qb qc qd ([0, qa]) ([0, qb])))))
def g_zs_s0 (rec : List Seg → Int → Int → ByteArray → ByteArray → Int → Int → Int → Int → List Rect → List Rect → zzI → zzI → Prop) (x0 : List Seg → Int → Int → ByteArray → ByteArray → Int → Int → Int → Int → List Rect → List Rect → zzI → zzI → Prop) (x1 : List Seg → Int → Int → ByteArray → ByteArray → Int → Int → Int → Int → List Rect → List Rect → zzI → zzI → Prop) (t1 : List Seg) (t5 t9 : Int) (c2_0 c2_1 : ByteArray) (c2_2 c2_3 c2_4 c2_5 : Int) (c2_6 c2_7 : List Rect) (l208 l209 : zzI) : Prop := cond (decide (t9 < (t1.length : Int))) ((let e0 := (t1.getD t9.toNat default); ((0 ≤ t9 ∧ t9 < t1.length) ∧ (let r1 := (sp_zaq c2_0 c2_1 c2_2 c2_3 c2_4 c2_5 c2_6 c2_7 e0.X1 e0.Y1); (let r2 := (sp_zaq c2_0 c2_1 c2_2 c2_3 c2_4 c2_5 c2_6 c2_7 e0.X2 e0.Y2); cond (((!r1) || (!r2)) || ((!((e0.Y1 == e0.Y2) && (decide (e0.X1 < e0.X2)))) && (!((e0.X1 == e0.X2) && (decide (e0.Y1 < e0.Y2)))))) (x0 t1 1 t9 c2_0 c2_1 c2_2 c2_3 c2_4 c2_5 c2_6 c2_7 l208 l209) (((pre_zaj l208 e0.X1) ∧ (let r3 := (sp_zaj (sp_zaj l208 e0.X1) e0.X2); ((pre_zaj (sp_zaj l208 e0.X1) e0.X2) ∧ ((pre_zaj l209 e0.Y1) ∧ (let r4 := (sp_zaj (sp_zaj l209 e0.Y1) e0.Y2); ((pre_zaj (sp_zaj l209 e0.Y1) e0.Y2) ∧ rec t1 t5 (w64 (t9 + 1)) c2_0 c2_1 c2_2 c2_3 c2_4 c2_5 c2_6 c2_7 r3 r4)))))))))))) (x1 t1 t5 t9 c2_0 c2_1 c2_2 c2_3 c2_4 c2_5 c2_6 c2_7 l208 l209)
def g_zs_c0_0 (Q : List (List Rect) → Int → Prop) (t1 : List Seg) (t5 t9 : Int) (c2_0 c2_1 : ByteArray) (c2_2 c2_3 c2_4 c2_5 : Int) (c2_6 c2_7 : List Rect) (l208 l209 : zzI) : Prop := Q ([]) t5
def g_zs_c0_1 (Q : List (List Rect) → Int → Prop) (t1 : List Seg) (t5 t9 : Int) (c2_0 c2_1 : ByteArray) (c2_2 c2_3 c2_4 c2_5 : Int) (c2_6 c2_7 : List Rect) (l208 l209 : zzI) (i1 : Int → List Seg → zzI → zzI → zzB → zzB → zzZ → Prop) : Prop := (let v0 := w64 ((w64 ((l208.length : Int) - 1)) * (w64 ((l209.length : Int) - 1))); cond (decide (6000 < v0)) (Q ([]) 4) (i1 0 t1 l208 l209 ([]) ([]) ([])))
def g_zs_s1 (rec : Int → List Seg → zzI → zzI → zzB → zzB → zzZ → Prop) (x0 : Int → List Seg → zzI → zzI → zzB → zzB → zzZ → Prop) (t6 : Int) (qcb : List Seg) (l208 l209 : zzI) (qax qay : zzB) (qaz : zzZ) : Prop := cond (decide ((w64 (t6 + 1)) < (l208.length : Int))) (((0 ≤ (l209.length : Int) ∧ (l209.length : Int) = (l209.length : Int) ∧ (l209.length : Int) * 1 ≤ 140737488355328) ∧ (((qax.length + 1) * 24 ≤ 140737488355328) ∧ ((0 ≤ (l209.length : Int) ∧ (l209.length : Int) = (l209.length : Int) ∧ (l209.length : Int) * 1 ≤ 140737488355328) ∧ (((qay.length + 1) * 24 ≤ 140737488355328) ∧ ((0 ≤ (l209.length : Int) ∧ (l209.length : Int) = (l209.length : Int) ∧ (l209.length : Int) * 8 ≤ 140737488355328) ∧ (((qaz.length + 1) * 24 ≤ 140737488355328) ∧ rec (w64 (t6 + 1)) qcb l208 l209 (qax ++ [(List.replicate ((l209.length : Int).toNat) (false : Bool))]) (qay ++ [(List.replicate ((l209.length : Int).toNat) (false : Bool))]) (qaz ++ [(List.replicate ((l209.length : Int).toNat) (0 : Int))])))))))) (x0 t6 qcb l208 l209 qax qay qaz)
def g_zs_c1_0 (Q : List (List Rect) → Int → Prop) (t6 : Int) (qcb : List Seg) (l208 l209 : zzI) (qax qay : zzB) (qaz : zzZ) (i2 : List Seg → Int → zzI → zzI → zzB → zzB → zzZ → Prop) : Prop := i2 qcb 0 l208 l209 qax qay qaz
def g_zs_s2 (rec : List Seg → Int → zzI → zzI → zzB → zzB → zzZ → Prop) (x0 : List Seg → Int → zzI → zzI → zzB → zzB → zzZ → Prop) (t1 : List Seg) (t12 : Int) (l208 l209 : zzI) (l210 l211 : zzB) (l212 : zzZ) (i3 : Int → Int → List Seg → Int → zzI → zzI → Int → Int → Int → Int → zzB → zzB → zzZ → Prop) (i4 : Int → Int → List Seg → Int → zzI → zzI → Int → Int → Int → Int → zzB → zzB → zzZ → Prop) : Prop := cond (decide (t12 < (t1.length : Int))) ((let e0 := (t1.getD t12.toNat default); ((0 ≤ t12 ∧ t12 < t1.length) ∧ cond (e0.Y1 == e0.Y2) (((pre_zar l209 e0.Y1) ∧ ((pre_zar l208 e0.X1) ∧ i3 (sp_zar l209 e0.Y1) (sp_zar l208 e0.X1) t1 t12 l208 l209 e0.X1 e0.Y1 e0.X2 e0.Y2 l210 l211 l212))) (((pre_zar l208 e0.X1) ∧ ((pre_zar l209 e0.Y1) ∧ i4 (sp_zar l208 e0.X1) (sp_zar l209 e0.Y1) t1 t12 l208 l209 e0.X1 e0.Y1 e0.X2 e0.Y2 l210 l211 l212)))))) (x0 t1 t12 l208 l209 l210 l211 l212)
def g_zs_c2_0 (Q : List (List Rect) → Int → Prop) (t1 : List Seg) (t12 : Int) (l208 l209 : zzI) (l210 l211 : zzB) (l212 : zzZ) (i5 : Int → zzI → zzI → zzB → zzB → zzZ → List (List Rect) → Prop) : Prop := i5 0 l208 l209 l210 l211 l212 ([])
def g_zs_s3 (rec : Int → Int → List Seg → Int → zzI → zzI → Int → Int → Int → Int → zzB → zzB → zzZ → Prop) (x0 : Int → Int → List Seg → Int → zzI → zzI → Int → Int → Int → Int → zzB → zzB → zzZ → Prop) (t4 t5 : Int) (qcb : List Seg) (qcc : Int) (l208 l209 : zzI) (qao qap qaq qar : Int) (qba qbb : zzB) (qbc : zzZ) : Prop := ((pre_zar l208 qaq) ∧ cond (decide (t5 < (sp_zar l208 qaq))) (cond (decide (0 < t4)) ((((0 ≤ t5 ∧ t5 < qbb.length) ∧ (0 ≤ (w64 (t4 - 1)) ∧ (w64 (t4 - 1)) < (qbb.getD t5.toNat default).length)) ∧ rec t4 (w64 (t5 + 1)) qcb qcc l208 l209 qao qap qaq qar qba (qbb.set t5.toNat ((qbb.getD t5.toNat default).set ((w64 (t4 - 1)).toNat) true)) qbc)) (x0 t4 t5 qcb qcc l208 l209 qao qap qaq qar qba qbb qbc)) (x0 t4 t5 qcb qcc l208 l209 qao qap qaq qar qba qbb qbc))
def g_zs_c3_0 (rec : List Seg → Int → zzI → zzI → zzB → zzB → zzZ → Prop) (x0 : List Seg → Int → zzI → zzI → zzB → zzB → zzZ → Prop) (t4 t5 : Int) (qcb : List Seg) (qcc : Int) (l208 l209 : zzI) (qao qap qaq qar : Int) (qba qbb : zzB) (qbc : zzZ) : Prop := rec qcb (w64 (qcc + 1)) l208 l209 qba qbb qbc
def g_zs_s4 (rec : Int → Int → List Seg → Int → zzI → zzI → Int → Int → Int → Int → zzB → zzB → zzZ → Prop) (x0 : Int → Int → List Seg → Int → zzI → zzI → Int → Int → Int → Int → zzB → zzB → zzZ → Prop) (t6 t7 : Int) (qcb : List Seg) (qcc : Int) (l208 l209 : zzI) (qao qap qaq qar : Int) (qba qbb : zzB) (qbc : zzZ) : Prop := ((pre_zar l209 qar) ∧ cond (decide (t7 < (sp_zar l209 qar))) (cond (decide (0 < t6)) (cond (decide ((w64 (t6 - 1)) < (qba.length : Int))) ((((0 ≤ (w64 (t6 - 1)) ∧ (w64 (t6 - 1)) < qba.length) ∧ (0 ≤ t7 ∧ t7 < (qba.getD ((w64 (t6 - 1)).toNat) default).length)) ∧ rec t6 (w64 (t7 + 1)) qcb qcc l208 l209 qao qap qaq qar (qba.set ((w64 (t6 - 1)).toNat) ((qba.getD ((w64 (t6 - 1)).toNat) default).set t7.toNat true)) qbb qbc)) (rec t6 (w64 (t7 + 1)) qcb qcc l208 l209 qao qap qaq qar qba qbb qbc)) (x0 t6 t7 qcb qcc l208 l209 qao qap qaq qar qba qbb qbc)) (x0 t6 t7 qcb qcc l208 l209 qao qap qaq qar qba qbb qbc))
def g_zs_c4_0 (rec : List Seg → Int → zzI → zzI → zzB → zzB → zzZ → Prop) (x0 : List Seg → Int → zzI → zzI → zzB → zzB → zzZ → Prop) (t6 t7 : Int) (qcb : List Seg) (qcc : Int) (l208 l209 : zzI) (qao qap qaq qar : Int) (qba qbb : zzB) (qbc : zzZ) : Prop := rec qcb (w64 (qcc + 1)) l208 l209 qba qbb qbc
def g_zs_s5 (rec : Int → zzI → zzI → zzB → zzB → zzZ → List (List Rect) → Prop) (x0 : Int → zzI → zzI → zzB → zzB → zzZ → List (List Rect) → Prop) (t14 : Int) (l208 l209 : zzI) (l210 l211 : zzB) (l212 : zzZ) (l213 : List (List Rect)) (i6 : Int → Int → zzI → zzI → zzB → zzB → zzZ → List (List Rect) → Prop) : Prop := cond (decide ((w64 (t14 + 1)) < (l209.length : Int))) (i6 t14 0 l208 l209 l210 l211 l212 l213) (x0 t14 l208 l209 l210 l211 l212 l213)
def g_zs_c5_0 (Q : List (List Rect) → Int → Prop) (t14 : Int) (l208 l209 : zzI) (l210 l211 : zzB) (l212 : zzZ) (l213 : List (List Rect)) : Prop := Q l213 0
def g_zs_s6 (rec : Int → Int → zzI → zzI → zzB → zzB → zzZ → List (List Rect) → Prop) (x0 : Int → Int → zzI → zzI → zzB → zzB → zzZ → List (List Rect) → Prop) (t14 t15 : Int) (l208 l209 : zzI) (l210 l211 : zzB) (l212 : zzZ) (l213 : List (List Rect)) (i7 : Int → Int → Int → Int → Int → Int → zzI → zzI → List Cel → List (List Rect) → zzB → zzB → zzZ → Prop) : Prop := cond (decide ((w64 (t15 + 1)) < (l208.length : Int))) ((let v0 := ((l212.getD t15.toNat default).getD t14.toNat default); (((0 ≤ t15 ∧ t15 < l212.length) ∧ (0 ≤ t14 ∧ t14 < (l212.getD t15.toNat default).length)) ∧ cond (v0 == 0) ((((l213.length + ([[]] : List (List Rect)).length) * 24 ≤ 140737488355328) ∧ (let v1 := ((l213 ++ ([[]] : List (List Rect))).length : Int); (((0 ≤ t15 ∧ t15 < l212.length) ∧ (0 ≤ t14 ∧ t14 < (l212.getD t15.toNat default).length)) ∧ i7 v1 (w64 ((l208.length : Int) - 1)) (w64 ((l209.length : Int) - 1)) 0 t14 t15 l208 l209 ([(Cel.mk t15 t14)]) (l213 ++ ([[]] : List (List Rect))) l210 l211 (l212.set t15.toNat ((l212.getD t15.toNat default).set t14.toNat v1)))))) ((let v2 := ((l212.getD t15.toNat default).getD t14.toNat default); (((0 ≤ t15 ∧ t15 < l212.length) ∧ (0 ≤ t14 ∧ t14 < (l212.getD t15.toNat default).length)) ∧ ((0 ≤ (w64 (v2 - 1)) ∧ (w64 (v2 - 1)) < l213.length) ∧ ((0 ≤ t15 ∧ t15 < l208.length) ∧ ((0 ≤ t14 ∧ t14 < l209.length) ∧ ((0 ≤ (w64 (t15 + 1)) ∧ (w64 (t15 + 1)) < l208.length) ∧ ((0 ≤ t15 ∧ t15 < l208.length) ∧ (let v3 := w64 ((l208.getD ((w64 (t15 + 1)).toNat) default) - (l208.getD t15.toNat default)); ((0 ≤ (w64 (t14 + 1)) ∧ (w64 (t14 + 1)) < l209.length) ∧ ((0 ≤ t14 ∧ t14 < l209.length) ∧ (let v4 := w64 ((l209.getD ((w64 (t14 + 1)).toNat) default) - (l209.getD t14.toNat default)); ((((l213.getD ((w64 (v2 - 1)).toNat) default).length + ([(Rect.mk (l208.getD t15.toNat default) (l209.getD t14.toNat default) v3 v4)]).length) * 32 ≤ 140737488355328) ∧ ((0 ≤ (w64 (v2 - 1)) ∧ (w64 (v2 - 1)) < (l213.set ((w64 (v2 - 1)).toNat) ((l213.getD ((w64 (v2 - 1)).toNat) default) ++ ([(Rect.mk (l208.getD t15.toNat default) (l209.getD t14.toNat default) v3 v4)]))).length) ∧ ((((w64 (v2 - 1)).toNat) = ((w64 (v2 - 1)).toNat) ∧ ((w64 (v2 - 1)).toNat) = ((w64 (v2 - 1)).toNat)) ∧ rec t14 (w64 (t15 + 1)) l208 l209 l210 l211 l212 (l213.set ((w64 (v2 - 1)).toNat) ((l213.getD ((w64 (v2 - 1)).toNat) default) ++ ([(Rect.mk (l208.getD t15.toNat default) (l209.getD t14.toNat default) v3 v4)]))))))))))))))))))))) (x0 t14 t15 l208 l209 l210 l211 l212 l213)
def g_zs_c6_0 (rec : Int → zzI → zzI → zzB → zzB → zzZ → List (List Rect) → Prop) (x0 : Int → zzI → zzI → zzB → zzB → zzZ → List (List Rect) → Prop) (t14 t15 : Int) (l208 l209 : zzI) (l210 l211 : zzB) (l212 : zzZ) (l213 : List (List Rect)) : Prop := rec (w64 (t14 + 1)) l208 l209 l210 l211 l212 l213
def g_zs_s7 (rec : Int → Int → Int → Int → Int → Int → zzI → zzI → List Cel → List (List Rect) → zzB → zzB → zzZ → Prop) (x0 : Int → Int → Int → Int → Int → Int → zzI → zzI → List Cel → List (List Rect) → zzB → zzB → zzZ → Prop) (t3 t8 t9 t11 qcd qce : Int) (l208 l209 : zzI) (qbd : List Cel) (qbe : List (List Rect)) (qbf qbg : zzB) (qbh : zzZ) (i8 : Int → Int → Int → Int → Int → Int → Int → zzI → zzI → List Cel → List Cel → List (List Rect) → zzB → zzB → zzZ → Prop) : Prop := cond (decide (t11 < (qbd.length : Int))) ((0 ≤ t11 ∧ t11 < qbd.length) ∧ nxG (decide (w64 ((qbd.getD t11.toNat default).i + 1) < t8)) (0 ≤ (qbd.getD t11.toNat default).i ∧ (qbd.getD t11.toNat default).i < qbf.length) (0 ≤ (qbd.getD t11.toNat default).j ∧ (qbd.getD t11.toNat default).j < (qbf.getD (qbd.getD t11.toNat default).i.toNat default).length) ((qbf.getD (qbd.getD t11.toNat default).i.toNat default).getD (qbd.getD t11.toNat default).j.toNat default) (Cel.mk (w64 ((qbd.getD t11.toNat default).i + 1)) (qbd.getD t11.toNat default).j) [] fun nx => nxG (decide (0 < (qbd.getD t11.toNat default).i)) (0 ≤ w64 ((qbd.getD t11.toNat default).i - 1) ∧ w64 ((qbd.getD t11.toNat default).i - 1) < qbf.length) (0 ≤ (qbd.getD t11.toNat default).j ∧ (qbd.getD t11.toNat default).j < (qbf.getD (w64 ((qbd.getD t11.toNat default).i - 1)).toNat default).length) ((qbf.getD (w64 ((qbd.getD t11.toNat default).i - 1)).toNat default).getD (qbd.getD t11.toNat default).j.toNat default) (Cel.mk (w64 ((qbd.getD t11.toNat default).i - 1)) (qbd.getD t11.toNat default).j) nx fun nx => nxG (decide (w64 ((qbd.getD t11.toNat default).j + 1) < t9)) (0 ≤ (qbd.getD t11.toNat default).i ∧ (qbd.getD t11.toNat default).i < qbg.length) (0 ≤ (qbd.getD t11.toNat default).j ∧ (qbd.getD t11.toNat default).j < (qbg.getD (qbd.getD t11.toNat default).i.toNat default).length) ((qbg.getD (qbd.getD t11.toNat default).i.toNat default).getD (qbd.getD t11.toNat default).j.toNat default) (Cel.mk (qbd.getD t11.toNat default).i (w64 ((qbd.getD t11.toNat default).j + 1))) nx fun nx => nxG (decide (0 < (qbd.getD t11.toNat default).j)) (0 ≤ (qbd.getD t11.toNat default).i ∧ (qbd.getD t11.toNat default).i < qbg.length) (0 ≤ w64 ((qbd.getD t11.toNat default).j - 1) ∧ w64 ((qbd.getD t11.toNat default).j - 1) < (qbg.getD (qbd.getD t11.toNat default).i.toNat default).length) ((qbg.getD (qbd.getD t11.toNat default).i.toNat default).getD (w64 ((qbd.getD t11.toNat default).j - 1)).toNat default) (Cel.mk (qbd.getD t11.toNat default).i (w64 ((qbd.getD t11.toNat default).j - 1))) nx fun nx => i8 t3 t8 t9 t11 0 qcd qce l208 l209 qbd nx qbe qbf qbg qbh) (x0 t3 t8 t9 t11 qcd qce l208 l209 qbd qbe qbf qbg qbh)
def g_zs_c7_0 (rec : Int → Int → zzI → zzI → zzB → zzB → zzZ → List (List Rect) → Prop) (x0 : Int → Int → zzI → zzI → zzB → zzB → zzZ → List (List Rect) → Prop) (t3 t8 t9 t11 qcd qce : Int) (l208 l209 : zzI) (qbd : List Cel) (qbe : List (List Rect)) (qbf qbg : zzB) (qbh : zzZ) : Prop := (let v0 := ((qbh.getD qce.toNat default).getD qcd.toNat default); (((0 ≤ qce ∧ qce < qbh.length) ∧ (0 ≤ qcd ∧ qcd < (qbh.getD qce.toNat default).length)) ∧ ((0 ≤ (w64 (v0 - 1)) ∧ (w64 (v0 - 1)) < qbe.length) ∧ ((0 ≤ qce ∧ qce < l208.length) ∧ ((0 ≤ qcd ∧ qcd < l209.length) ∧ ((0 ≤ (w64 (qce + 1)) ∧ (w64 (qce + 1)) < l208.length) ∧ (let v1 := (l208.getD ((w64 (qce + 1)).toNat) default); ((0 ≤ qce ∧ qce < l208.length) ∧ (let v2 := w64 (v1 - (l208.getD qce.toNat default)); ((0 ≤ (w64 (qcd + 1)) ∧ (w64 (qcd + 1)) < l209.length) ∧ (let v3 := (l209.getD ((w64 (qcd + 1)).toNat) default); ((0 ≤ qcd ∧ qcd < l209.length) ∧ (let v4 := w64 (v3 - (l209.getD qcd.toNat default)); ((((qbe.getD ((w64 (v0 - 1)).toNat) default).length + ([(Rect.mk (l208.getD qce.toNat default) (l209.getD qcd.toNat default) v2 v4)]).length) * 32 ≤ 140737488355328) ∧ ((0 ≤ (w64 (v0 - 1)) ∧ (w64 (v0 - 1)) < (qbe.set ((w64 (v0 - 1)).toNat) ((qbe.getD ((w64 (v0 - 1)).toNat) default) ++ ([(Rect.mk (l208.getD qce.toNat default) (l209.getD qcd.toNat default) v2 v4)]))).length) ∧ ((((w64 (v0 - 1)).toNat) = ((w64 (v0 - 1)).toNat) ∧ ((w64 (v0 - 1)).toNat) = ((w64 (v0 - 1)).toNat)) ∧ rec qcd (w64 (qce + 1)) l208 l209 qbf qbg qbh (qbe.set ((w64 (v0 - 1)).toNat) ((qbe.getD ((w64 (v0 - 1)).toNat) default) ++ ([(Rect.mk (l208.getD qce.toNat default) (l209.getD qcd.toNat default) v2 v4)])))))))))))))))))))
def g_zs_s8 (rec : Int → Int → Int → Int → Int → Int → Int → zzI → zzI → List Cel → List Cel → List (List Rect) → zzB → zzB → zzZ → Prop) (x0 : Int → Int → Int → Int → Int → Int → Int → zzI → zzI → List Cel → List Cel → List (List Rect) → zzB → zzB → zzZ → Prop) (t3 t8 t9 t11 t14 qcd qce : Int) (l208 l209 : zzI) (qbd qbe : List Cel) (qbf : List (List Rect)) (qbg qbh : zzB) (qbi : zzZ) : Prop := cond (decide (t14 < (qbe.length : Int))) (((0 ≤ t14 ∧ t14 < qbe.length) ∧ ((0 ≤ ((qbe.getD t14.toNat default).i) ∧ ((qbe.getD t14.toNat default).i) < qbi.length) ∧ ((0 ≤ t14 ∧ t14 < qbe.length) ∧ ((0 ≤ ((qbe.getD t14.toNat default).j) ∧ ((qbe.getD t14.toNat default).j) < (qbi.getD (((qbe.getD t14.toNat default).i).toNat) default).length) ∧ (let v0 := ((qbi.getD (((qbe.getD t14.toNat default).i).toNat) default).getD (((qbe.getD t14.toNat default).j).toNat) default); cond (v0 == 0) (((0 ≤ t14 ∧ t14 < qbe.length) ∧ ((0 ≤ ((qbe.getD t14.toNat default).i) ∧ ((qbe.getD t14.toNat default).i) < qbi.length) ∧ ((0 ≤ t14 ∧ t14 < qbe.length) ∧ ((0 ≤ ((qbe.getD t14.toNat default).j) ∧ ((qbe.getD t14.toNat default).j) < (qbi.getD (((qbe.getD t14.toNat default).i).toNat) default).length) ∧ (((0 ≤ t14 ∧ t14 < qbe.length) ∧ ((qbd.length + ([(qbe.getD t14.toNat default)]).length) * 16 ≤ 140737488355328)) ∧ rec t3 t8 t9 t11 (w64 (t14 + 1)) qcd qce l208 l209 (qbd ++ ([(qbe.getD t14.toNat default)])) qbe qbf qbg qbh (qbi.set (((qbe.getD t14.toNat default).i).toNat) ((qbi.getD (((qbe.getD t14.toNat default).i).toNat) default).set (((qbe.getD t14.toNat default).j).toNat) t3)))))))) (rec t3 t8 t9 t11 (w64 (t14 + 1)) qcd qce l208 l209 qbd qbe qbf qbg qbh qbi))))))) (x0 t3 t8 t9 t11 t14 qcd qce l208 l209 qbd qbe qbf qbg qbh qbi)
def g_zs_c8_0 (rec : Int → Int → Int → Int → Int → Int → zzI → zzI → List Cel → List (List Rect) → zzB → zzB → zzZ → Prop) (x0 : Int → Int → Int → Int → Int → Int → zzI → zzI → List Cel → List (List Rect) → zzB → zzB → zzZ → Prop) (t3 t8 t9 t11 t14 qcd qce : Int) (l208 l209 : zzI) (qbd qbe : List Cel) (qbf : List (List Rect)) (qbg qbh : zzB) (qbi : zzZ) : Prop := rec t3 t8 t9 (w64 (t11 + 1)) qcd qce l208 l209 qbd qbf qbg qbh qbi
def w_zs_3 (F : Nat) (x0 : Int → Int → List Seg → Int → zzI → zzI → Int → Int → Int → Int → zzB → zzB → zzZ → Prop) : Nat → Int → Int → List Seg → Int → zzI → zzI → Int → Int → Int → Int → zzB → zzB → zzZ → Prop
 | 0, _, _, _, _, _, _, _, _, _, _, _, _, _ => False
 | n + 1, t4, t5, qcb, qcc, l208, l209, qao, qap, qaq, qar, qba, qbb, qbc => g_zs_s3 (w_zs_3 F x0 n) x0 t4 t5 qcb qcc l208 l209 qao qap qaq qar qba qbb qbc
def n_zs_3 (F : Nat) (rec : List Seg → Int → zzI → zzI → zzB → zzB → zzZ → Prop) (x0 : List Seg → Int → zzI → zzI → zzB → zzB → zzZ → Prop) (t4 t5 : Int) (qcb : List Seg) (qcc : Int) (l208 l209 : zzI) (qao qap qaq qar : Int) (qba qbb : zzB) (qbc : zzZ) : Prop := w_zs_3 F (fun t4 t5 qcb qcc l208 l209 qao qap qaq qar qba qbb qbc => g_zs_c3_0 rec x0 t4 t5 qcb qcc l208 l209 qao qap qaq qar qba qbb qbc) F t4 t5 qcb qcc l208 l209 qao qap qaq qar qba qbb qbc
def w_zs_4 (F : Nat) (x0 : Int → Int → List Seg → Int → zzI → zzI → Int → Int → Int → Int → zzB → zzB → zzZ → Prop) : Nat → Int → Int → List Seg → Int → zzI → zzI → Int → Int → Int → Int → zzB → zzB → zzZ → Prop
 | 0, _, _, _, _, _, _, _, _, _, _, _, _, _ => False
 | n + 1, t6, t7, qcb, qcc, l208, l209, qao, qap, qaq, qar, qba, qbb, qbc => g_zs_s4 (w_zs_4 F x0 n) x0 t6 t7 qcb qcc l208 l209 qao qap qaq qar qba qbb qbc
def n_zs_4 (F : Nat) (rec : List Seg → Int → zzI → zzI → zzB → zzB → zzZ → Prop) (x0 : List Seg → Int → zzI → zzI → zzB → zzB → zzZ → Prop) (t6 t7 : Int) (qcb : List Seg) (qcc : Int) (l208 l209 : zzI) (qao qap qaq qar : Int) (qba qbb : zzB) (qbc : zzZ) : Prop := w_zs_4 F (fun t6 t7 qcb qcc l208 l209 qao qap qaq qar qba qbb qbc => g_zs_c4_0 rec x0 t6 t7 qcb qcc l208 l209 qao qap qaq qar qba qbb qbc) F t6 t7 qcb qcc l208 l209 qao qap qaq qar qba qbb qbc
def w_zs_8 (F : Nat) (x0 : Int → Int → Int → Int → Int → Int → Int → zzI → zzI → List Cel → List Cel → List (List Rect) → zzB → zzB → zzZ → Prop) : Nat → Int → Int → Int → Int → Int → Int → Int → zzI → zzI → List Cel → List Cel → List (List Rect) → zzB → zzB → zzZ → Prop
 | 0, _, _, _, _, _, _, _, _, _, _, _, _, _, _, _ => False
 | n + 1, t3, t8, t9, t11, t14, qcd, qce, l208, l209, qbd, qbe, qbf, qbg, qbh, qbi => g_zs_s8 (w_zs_8 F x0 n) x0 t3 t8 t9 t11 t14 qcd qce l208 l209 qbd qbe qbf qbg qbh qbi
def n_zs_8 (F : Nat) (rec : Int → Int → Int → Int → Int → Int → zzI → zzI → List Cel → List (List Rect) → zzB → zzB → zzZ → Prop) (x0 : Int → Int → Int → Int → Int → Int → zzI → zzI → List Cel → List (List Rect) → zzB → zzB → zzZ → Prop) (t3 t8 t9 t11 t14 qcd qce : Int) (l208 l209 : zzI) (qbd qbe : List Cel) (qbf : List (List Rect)) (qbg qbh : zzB) (qbi : zzZ) : Prop := w_zs_8 F (fun t3 t8 t9 t11 t14 qcd qce l208 l209 qbd qbe qbf qbg qbh qbi => g_zs_c8_0 rec x0 t3 t8 t9 t11 t14 qcd qce l208 l209 qbd qbe qbf qbg qbh qbi) F t3 t8 t9 t11 t14 qcd qce l208 l209 qbd qbe qbf qbg qbh qbi
def w_zs_7 (F : Nat) (x0 : Int → Int → Int → Int → Int → Int → zzI → zzI → List Cel → List (List Rect) → zzB → zzB → zzZ → Prop) : Nat → Int → Int → Int → Int → Int → Int → zzI → zzI → List Cel → List (List Rect) → zzB → zzB → zzZ → Prop
 | 0, _, _, _, _, _, _, _, _, _, _, _, _, _ => False
 | n + 1, t3, t8, t9, t11, qcd, qce, l208, l209, qbd, qbe, qbf, qbg, qbh => g_zs_s7 (w_zs_7 F x0 n) x0 t3 t8 t9 t11 qcd qce l208 l209 qbd qbe qbf qbg qbh (n_zs_8 F (w_zs_7 F x0 n) x0)
def n_zs_7 (F : Nat) (rec : Int → Int → zzI → zzI → zzB → zzB → zzZ → List (List Rect) → Prop) (x0 : Int → Int → zzI → zzI → zzB → zzB → zzZ → List (List Rect) → Prop) (t3 t8 t9 t11 qcd qce : Int) (l208 l209 : zzI) (qbd : List Cel) (qbe : List (List Rect)) (qbf qbg : zzB) (qbh : zzZ) : Prop := w_zs_7 F (fun t3 t8 t9 t11 qcd qce l208 l209 qbd qbe qbf qbg qbh => g_zs_c7_0 rec x0 t3 t8 t9 t11 qcd qce l208 l209 qbd qbe qbf qbg qbh) F t3 t8 t9 t11 qcd qce l208 l209 qbd qbe qbf qbg qbh
def w_zs_6 (F : Nat) (x0 : Int → Int → zzI → zzI → zzB → zzB → zzZ → List (List Rect) → Prop) : Nat → Int → Int → zzI → zzI → zzB → zzB → zzZ → List (List Rect) → Prop
 | 0, _, _, _, _, _, _, _, _ => False
 | n + 1, t14, t15, l208, l209, l210, l211, l212, l213 => g_zs_s6 (w_zs_6 F x0 n) x0 t14 t15 l208 l209 l210 l211 l212 l213 (n_zs_7 F (w_zs_6 F x0 n) x0)
def n_zs_6 (F : Nat) (rec : Int → zzI → zzI → zzB → zzB → zzZ → List (List Rect) → Prop) (x0 : Int → zzI → zzI → zzB → zzB → zzZ → List (List Rect) → Prop) (t14 t15 : Int) (l208 l209 : zzI) (l210 l211 : zzB) (l212 : zzZ) (l213 : List (List Rect)) : Prop := w_zs_6 F (fun t14 t15 l208 l209 l210 l211 l212 l213 => g_zs_c6_0 rec x0 t14 t15 l208 l209 l210 l211 l212 l213) F t14 t15 l208 l209 l210 l211 l212 l213
def w_zs_5 (F : Nat) (x0 : Int → zzI → zzI → zzB → zzB → zzZ → List (List Rect) → Prop) : Nat → Int → zzI → zzI → zzB → zzB → zzZ → List (List Rect) → Prop
 | 0, _, _, _, _, _, _, _ => False
 | n + 1, t14, l208, l209, l210, l211, l212, l213 => g_zs_s5 (w_zs_5 F x0 n) x0 t14 l208 l209 l210 l211 l212 l213 (n_zs_6 F (w_zs_5 F x0 n) x0)
def n_zs_5 (F : Nat) (Q : List (List Rect) → Int → Prop) (t14 : Int) (l208 l209 : zzI) (l210 l211 : zzB) (l212 : zzZ) (l213 : List (List Rect)) : Prop := w_zs_5 F (fun t14 l208 l209 l210 l211 l212 l213 => g_zs_c5_0 Q t14 l208 l209 l210 l211 l212 l213) F t14 l208 l209 l210 l211 l212 l213
def w_zs_2 (F : Nat) (x0 : List Seg → Int → zzI → zzI → zzB → zzB → zzZ → Prop) : Nat → List Seg → Int → zzI → zzI → zzB → zzB → zzZ → Prop
 | 0, _, _, _, _, _, _, _ => False
 | n + 1, t1, t12, l208, l209, l210, l211, l212 => g_zs_s2 (w_zs_2 F x0 n) x0 t1 t12 l208 l209 l210 l211 l212 (n_zs_3 F (w_zs_2 F x0 n) x0) (n_zs_4 F (w_zs_2 F x0 n) x0)
def n_zs_2 (F : Nat) (Q : List (List Rect) → Int → Prop) (t1 : List Seg) (t12 : Int) (l208 l209 : zzI) (l210 l211 : zzB) (l212 : zzZ) : Prop := w_zs_2 F (fun t1 t12 l208 l209 l210 l211 l212 => g_zs_c2_0 Q t1 t12 l208 l209 l210 l211 l212 (n_zs_5 F Q)) F t1 t12 l208 l209 l210 l211 l212
def w_zs_1 (F : Nat) (x0 : Int → List Seg → zzI → zzI → zzB → zzB → zzZ → Prop) : Nat → Int → List Seg → zzI → zzI → zzB → zzB → zzZ → Prop
 | 0, _, _, _, _, _, _, _ => False
 | n + 1, t6, qcb, l208, l209, qax, qay, qaz => g_zs_s1 (w_zs_1 F x0 n) x0 t6 qcb l208 l209 qax qay qaz
def n_zs_1 (F : Nat) (Q : List (List Rect) → Int → Prop) (t6 : Int) (qcb : List Seg) (l208 l209 : zzI) (qax qay : zzB) (qaz : zzZ) : Prop := w_zs_1 F (fun t6 qcb l208 l209 qax qay qaz => g_zs_c1_0 Q t6 qcb l208 l209 qax qay qaz (n_zs_2 F Q)) F t6 qcb l208 l209 qax qay qaz
def w_zs_0 (F : Nat) (x0 : List Seg → Int → Int → ByteArray → ByteArray → Int → Int → Int → Int → List Rect → List Rect → zzI → zzI → Prop) (x1 : List Seg → Int → Int → ByteArray → ByteArray → Int → Int → Int → Int → List Rect → List Rect → zzI → zzI → Prop) : Nat → List Seg → Int → Int → ByteArray → ByteArray → Int → Int → Int → Int → List Rect → List Rect → zzI → zzI → Prop
 | 0, _, _, _, _, _, _, _, _, _, _, _, _, _ => False
 | n + 1, t1, t5, t9, c2_0, c2_1, c2_2, c2_3, c2_4, c2_5, c2_6, c2_7, l208, l209 => g_zs_s0 (w_zs_0 F x0 x1 n) x0 x1 t1 t5 t9 c2_0 c2_1 c2_2 c2_3 c2_4 c2_5 c2_6 c2_7 l208 l209
def n_zs_0 (F : Nat) (Q : List (List Rect) → Int → Prop) (t1 : List Seg) (t5 t9 : Int) (c2_0 c2_1 : ByteArray) (c2_2 c2_3 c2_4 c2_5 : Int) (c2_6 c2_7 : List Rect) (l208 l209 : zzI) : Prop := w_zs_0 F (fun t1 t5 t9 c2_0 c2_1 c2_2 c2_3 c2_4 c2_5 c2_6 c2_7 l208 l209 => g_zs_c0_0 Q t1 t5 t9 c2_0 c2_1 c2_2 c2_3 c2_4 c2_5 c2_6 c2_7 l208 l209) (fun t1 t5 t9 c2_0 c2_1 c2_2 c2_3 c2_4 c2_5 c2_6 c2_7 l208 l209 => g_zs_c0_1 Q t1 t5 t9 c2_0 c2_1 c2_2 c2_3 c2_4 c2_5 c2_6 c2_7 l208 l209 (n_zs_1 F Q)) F t1 t5 t9 c2_0 c2_1 c2_2 c2_3 c2_4 c2_5 c2_6 c2_7 l208 l209
def w_zs (F : Nat) (qe qf : ByteArray) (qg qh qa qb : Int) (qc qd : List Rect) (a1 : List Seg) (Q : List (List Rect) → Int → Prop) : Prop := g_zs_e qe qf qg qh qa qb qc qd a1 Q (n_zs_0 F Q)
theorem insB_within (w h : Int) (hw : 0 ≤ w ∧ w ≤ 1048576) (hh : 0 ≤ h ∧ h ≤ 1048576) : insB w h = withinB w h := by
 funext r
 unfold insB withinB
 rw [inside_within, show (2 * 0 : Int) = 0 from rfl, show w64 0 = 0 from rfl, Int.sub_zero, Int.sub_zero, w64_of (by omega) (by omega), w64_of (by omega) (by omega)]
theorem validB_right : validB = rightB := by
 funext r
 exact valid_right _ _ _ _
theorem not_from (a lo hi : Int) : (!(decide (lo ≤ a) && decide (a ≤ hi))) = (decide (a < lo) || decide (hi < a)) := by
 rw [Bool.eq_iff_iff]
 simp only [Bool.not_eq_true', Bool.and_eq_false_iff, decide_eq_false_iff_not, Bool.or_eq_true, decide_eq_true_eq]
 omega
theorem sheet_same (nm mt : ByteArray) (g gr w h : Int) (cl us : List Rect) : sp_zc nm mt g gr w h cl us = sp_zb nm mt g gr w h cl us := by
 unfold sp_zc sp_zb sp_zak sp_zz sp_zai sp_zao sp_zap sp_zab
 rw [validB_right, not_from, not_from]
 have e1 : (!(decide (1 ≤ g) && decide (g ≤ 60) && (decide (0 ≤ gr) && decide (gr ≤ 2)))) = (((decide (g < 1) || decide (60 < g)) || decide (gr < 0)) || decide (2 < gr)) := by
  rw [Bool.not_and, not_from, not_from, Bool.or_assoc, Bool.or_assoc, Bool.or_assoc]
 rw [e1]
 generalize (((decide (g < 1) || decide (60 < g)) || decide (gr < 0)) || decide (2 < gr)) = A
 cases (!vn nm || !vn mt)
 ·cases A
  ·simp only [cond_false, Bool.false_or, bne_self_eq_false]
   by_cases hw : 1 ≤ w ∧ w ≤ 1048576 ∧ 1 ≤ h ∧ h ≤ 1048576
   ·rw [insB_within w h (by omega) (by omega), dec_f (show ¬ w < 1 by omega), dec_f (show ¬ 1048576 < w by omega), dec_f (show ¬ h < 1 by omega), dec_f (show ¬ 1048576 < h by omega)]
    simp only [Bool.false_or, cond_false]
    cases cl.all (withinB w h) <;> cases us.all (withinB w h) <;> rfl
   ·have e2 : ((decide (w < 1) || decide (1048576 < w)) || (decide (h < 1) || decide (1048576 < h))) = true := by
     simp only [Bool.or_eq_true, decide_eq_true_eq]
     omega
    have e3 : (((decide (w < 1) || decide (1048576 < w)) || decide (h < 1)) || decide (1048576 < h)) = true := by
     rw [Bool.or_assoc]
     exact e2
    rw [e2, e3]
    rfl
  ·rfl
 ·cases A <;> rfl
set_option maxRecDepth 20000
def pre_zs (nm mt : ByteArray) (g gr w h : Int) (cl us : List Rect) (ls : List Seg) : Prop := pre_zb nm mt g gr w h cl us
def sp_zs (nm mt : ByteArray) (g gr w h : Int) (cl us : List Rect) (ls : List Seg) : List (List Rect) × Int :=
 cond (sp_zb nm mt g gr w h cl us != 0) ([], sp_zb nm mt g gr w h cl us) (cond (decide (200 < (ls.length : Int))) ([], 4) (cond (!(ls.all (linB nm mt g gr w h cl us))) ([], 1)
  (cond (decide (6000 < (((gxs w ls).length : Int) - 1) * (((gys h ls).length : Int) - 1))) ([], 4) (partsG w h ls, 0))))
theorem bad_eq (nm mt : ByteArray) (g gr w h : Int) (cl us : List Rect) (s : Seg) :
  (((!(sp_zaq nm mt g gr w h cl us s.X1 s.Y1)) || (!(sp_zaq nm mt g gr w h cl us s.X2 s.Y2))) || ((!((s.Y1 == s.Y2) && (decide (s.X1 < s.X2)))) && (!((s.X1 == s.X2) && (decide (s.Y1 < s.Y2)))))) = !(linB nm mt g gr w h cl us s) := by
 have e : ∀ a b, sp_zaq nm mt g gr w h cl us a b = sp_zl nm mt g gr w h cl us a b := fun a b => by
  unfold sp_zaq sp_zl
  cases decide (0 ≤ a) <;> cases decide (0 ≤ b) <;> cases decide (a ≤ w) <;> rfl
 rw [e, e]
 unfold linB sp_zd
 cases sp_zl nm mt g gr w h cl us s.X1 s.Y1 <;> cases sp_zl nm mt g gr w h cl us s.X2 s.Y2 <;> simp only [Bool.not_false, Bool.not_true, Bool.true_or, Bool.or_true, Bool.or_self, Bool.false_or, cond_true, cond_false, Bool.not_or]
theorem place_nil (x : Int) : sp_zaj [] x = [x] := rfl
theorem place_cons (y : Int) (l : zzI) (x : Int) : sp_zaj (y :: l) x = if y < x then y :: sp_zaj l x else if y = x then x :: l else x :: y :: l := by
 by_cases hy : y < x
 ·rw [if_pos hy]
  have hb : below_ (y :: l) x = below_ l x + 1 := by
   unfold below_
   rw [List.takeWhile_cons, dec_t hy, if_pos rfl, List.length_cons]
  unfold sp_zaj
  rw [hb]
  simp only [List.take_succ_cons, List.length_cons, List.getD_cons_succ, Nat.add_lt_add_iff_right]
  by_cases q : below_ l x < l.length ∧ l.getD (below_ l x) default = x
  ·rw [if_pos q, if_pos q]
   rfl
  ·rw [if_neg q, if_neg q]
   rfl
 ·rw [if_neg hy]
  have hb : below_ (y :: l) x = 0 := by
   unfold below_
   rw [List.takeWhile_cons, dec_f hy]
   rfl
  unfold sp_zaj
  rw [hb]
  simp only [List.take_zero, List.length_cons, List.getD_cons_zero, List.nil_append]
  by_cases q : y = x
  ·rw [if_pos ⟨by omega, q⟩, if_pos q]
   rfl
  ·rw [if_neg (fun z => q z.2), if_neg q]
   rfl
theorem place_mem (x : Int) : ∀ (l : zzI) (y : Int), y ∈ sp_zaj l x ↔ y = x ∨ y ∈ l
 | [], y => by rw [place_nil]; simp
 | z :: l, y => by
  rw [place_cons]
  split
  ·rw [List.mem_cons, List.mem_cons, place_mem x l y]
   constructor
   ·rintro (h | h | h)
    ·exact .inr (.inl h)
    ·exact .inl h
    ·exact .inr (.inr h)
   ·rintro (h | h | h)
    ·exact .inr (.inl h)
    ·exact .inl h
    ·exact .inr (.inr h)
  ·split
   ·rename_i e
    subst e
    simp
   ·simp
theorem place_asc (x : Int) : ∀ (l : zzI), asc l → asc (sp_zaj l x)
 | [], h => by rw [place_nil]; exact List.pairwise_singleton _ _
 | z :: l, h => by
  obtain ⟨h1, h2⟩ := List.pairwise_cons.1 h
  rw [place_cons]
  split
  ·rename_i hz
   refine List.pairwise_cons.2 ⟨fun y hy => ?_, place_asc x l h2⟩
   rcases (place_mem x l y).1 hy with rfl | hy
   ·exact hz
   ·exact h1 y hy
  ·split
   ·rename_i e
    subst e
    exact h
   ·refine List.pairwise_cons.2 ⟨fun y hy => ?_, h⟩
    rcases List.mem_cons.1 hy with rfl | hy
    ·omega
    ·have := h1 y hy
     omega
theorem place_len (x : Int) : ∀ (l : zzI), (sp_zaj l x).length ≤ l.length + 1
 | [] => by rw [place_nil]; simp
 | z :: l => by
  have := place_len x l
  rw [place_cons]
  split
  ·simp; omega
  ·split <;> simp
def plF (f g : Seg → Int) (l : zzI) (s : Seg) : zzI := sp_zaj (sp_zaj l (f s)) (g s)
theorem plF_len (f g : Seg → Int) (l : zzI) (s : Seg) : (plF f g l s).length ≤ l.length + 2 := by
 unfold plF
 have := place_len (g s) (sp_zaj l (f s))
 have := place_len (f s) l
 omega
theorem plF_fold (f g : Seg → Int) : ∀ (ls : List Seg) (l : zzI), asc l → asc (ls.foldl (plF f g) l) ∧ ∀ y, y ∈ ls.foldl (plF f g) l ↔ y ∈ l ∨ ∃ s ∈ ls, y = f s ∨ y = g s
 | [], l, h => ⟨h, fun y => by simp⟩
 | s :: ls, l, h => by
  obtain ⟨h1, h2⟩ := plF_fold f g ls (plF f g l s) (place_asc _ _ (place_asc _ _ h))
  refine ⟨h1, fun y => ?_⟩
  rw [List.foldl_cons, h2 y]
  unfold plF
  rw [place_mem, place_mem]
  constructor
  ·rintro ((h | h | h) | ⟨s', hs, h⟩)
   ·exact .inr ⟨s, List.mem_cons_self .., .inr h⟩
   ·exact .inr ⟨s, List.mem_cons_self .., .inl h⟩
   ·exact .inl h
   ·exact .inr ⟨s', List.mem_cons_of_mem _ hs, h⟩
  ·rintro (h | ⟨s', hs, h⟩)
   ·exact .inl (.inr (.inr h))
   ·rcases List.mem_cons.1 hs with rfl | hs
    ·rcases h with h | h
     ·exact .inl (.inr (.inl h))
     ·exact .inl (.inl h)
    ·exact .inr ⟨s', hs, h⟩
theorem asc2 {w : Int} (h : 1 ≤ w) : asc [0, w] := by
 refine List.pairwise_cons.2 ⟨fun y hy => ?_, List.pairwise_singleton _ _⟩
 obtain rfl := List.mem_singleton.1 hy
 omega
theorem gxs_fold {w : Int} (h : 1 ≤ w) (ls : List Seg) : ls.foldl (plF Seg.X1 Seg.X2) [0, w] = gxs w ls := by
 obtain ⟨h1, h2⟩ := plF_fold Seg.X1 Seg.X2 ls [0, w] (asc2 h)
 refine asc_ext _ _ h1 (gxs_asc w ls) fun y => ?_
 rw [h2, gxs_mem]
 simp only [List.mem_cons, List.not_mem_nil, or_false, or_assoc]
theorem gys_fold {w : Int} (h : 1 ≤ w) (ls : List Seg) : ls.foldl (plF Seg.Y1 Seg.Y2) [0, w] = gys w ls := by
 obtain ⟨h1, h2⟩ := plF_fold Seg.Y1 Seg.Y2 ls [0, w] (asc2 h)
 refine asc_ext _ _ h1 (gys_asc w ls) fun y => ?_
 rw [h2, gys_mem]
 simp only [List.mem_cons, List.not_mem_nil, or_false, or_assoc]
theorem at_eq {l : zzI} (h : asc l) {x : Int} (hx : x ∈ l) : sp_zar l x = (below_ l x : Nat) := by
 obtain ⟨hb, hv⟩ := below_mem h hx
 have hf := (below_first l x).1
 have : l.findIdx? (· == x) = some (below_ l x) := by
  rw [List.findIdx?_eq_some_iff_getElem]
  refine ⟨hb, ?_, fun j hj => ?_⟩
  ·have : l[below_ l x] = x := by simpa [List.getD_eq_getElem?_getD, hb] using hv
   simp [this]
  ·have := hf j hj
   have hjl : j < l.length := by omega
   rw [List.getD_eq_getElem?_getD, List.getElem?_eq_getElem hjl, Option.getD_some] at this
   simp
   omega
 unfold sp_zar
 rw [this]
 rfl
abbrev R0 := List Seg → Int → Int → ByteArray → ByteArray → Int → Int → Int → Int → List Rect → List Rect → LI → LI → Prop
abbrev R1 := Int → List Seg → XS
abbrev R2 := List Seg → Int → XS
abbrev R3 := Int → Int → List Seg → Int → LI → LI → Int → Int → Int → Int → LB → LB → zzZ → Prop
abbrev R5 := Int → LI → LI → LB → LB → zzZ → List (List Rect) → Prop
abbrev R6 := Int → R5
abbrev R7 := Int → Int → Int → Int → Int → Int → LI → LI → List Cel → List (List Rect) → LB → LB → zzZ → Prop
abbrev R8 := Int → Int → Int → Int → Int → Int → Int → LI → LI → List Cel → List Cel → List (List Rect) → LB → LB → zzZ → Prop
theorem lr0 (F : Nat) (x0 x1 : R0) (ls : List Seg) (nm mt : ByteArray) (g gr w h : Int) (cl us : List Rect) (hl : ls.length ≤ 200) : ∀ (n i : Nat) (xs ys : LI), i ≤ ls.length → ls.length < n + i → xs.length ≤ 2 + 2 * i → ys.length ≤ 2 + 2 * i →
  ((ls.drop i).all (linB nm mt g gr w h cl us) = false → ∀ j xs ys, x0 ls 1 j nm mt g gr w h cl us xs ys) →
  ((ls.drop i).all (linB nm mt g gr w h cl us) = true → x1 ls 0 ls.length nm mt g gr w h cl us ((ls.drop i).foldl (plF Seg.X1 Seg.X2) xs) ((ls.drop i).foldl (plF Seg.Y1 Seg.Y2) ys)) →
  w_zs_0 F x0 x1 n ls 0 i nm mt g gr w h cl us xs ys := by
 intro n
 induction n with
 | zero => intro i xs ys h1 h2; omega
 | succ n ih =>
  intro i xs ys h1 h2 h3 h4 hX hY
  show g_zs_s0 _ _ _ _ _ _ _ _ _ _ _ _ _ _ _ _
  unfold g_zs_s0
  by_cases hi : i < ls.length
  ·rw [dec_t (show (i : Int) < ls.length by omega), cond_true]
   simp only [Int.toNat_natCast]
   rw [drop_getD ls i hi, List.all_cons] at hX hY
   refine ⟨⟨by omega, by omega⟩, ?_⟩
   rw [bad_eq nm mt g gr w h cl us (ls.getD i default)]
   cases hs : linB nm mt g gr w h cl us (ls.getD i default) with
   | false =>
    rw [hs] at hX
    exact hX rfl _ _ _
   | true =>
    rw [hs, Bool.true_and] at hX hY
    have p1 := place_len (ls.getD i default).X1 xs
    have p2 := place_len (ls.getD i default).Y1 ys
    have p3 := plF_len Seg.X1 Seg.X2 xs (ls.getD i default)
    have p4 := plF_len Seg.Y1 Seg.Y2 ys (ls.getD i default)
    refine ⟨?_, ?_, ?_, ?_, ?_⟩
    ·show xs.length ≤ 1000000
     omega
    ·show (sp_zaj xs (ls.getD i default).X1).length ≤ 1000000
     omega
    ·show ys.length ≤ 1000000
     omega
    ·show (sp_zaj ys (ls.getD i default).Y1).length ≤ 1000000
     omega
    ·rw [w64_succ hi (by omega)]
     exact ih (i + 1) (plF Seg.X1 Seg.X2 xs (ls.getD i default)) (plF Seg.Y1 Seg.Y2 ys (ls.getD i default)) (by omega) (by omega) (by omega) (by omega) hX hY
  ·have e : i = ls.length := by omega
   subst e
   rw [dec_f (by omega), cond_false]
   rw [List.drop_length] at hY
   exact hY rfl
theorem lr1 (F : Nat) (x0 : R1) (ls : List Seg) (xs ys : LI) (w : Nat) (hw : xs.length = w + 1) (h1 : xs.length ≤ 1000) (h2 : ys.length ≤ 1000) (hx : x0 w ls xs ys (List.replicate w (List.replicate ys.length false)) (List.replicate w (List.replicate ys.length false)) (List.replicate w (List.replicate ys.length 0))) :
  ∀ (n i : Nat), i ≤ w → w < n + i → w_zs_1 F x0 n i ls xs ys (List.replicate i (List.replicate ys.length false)) (List.replicate i (List.replicate ys.length false)) (List.replicate i (List.replicate ys.length 0)) := by
 intro n
 induction n with
 | zero => intro i h3 h4; omega
 | succ n ih =>
  intro i h3 h4
  show g_zs_s1 _ _ _ _ _ _ _ _ _
  unfold g_zs_s1
  rw [w64_of (show -9223372036854775808 ≤ (i : Int) + 1 by omega) (by omega)]
  by_cases h : i < w
  ·rw [dec_t (show (i : Int) + 1 < xs.length by omega), cond_true]
   simp only [Int.toNat_natCast, List.length_replicate]
   refine ⟨⟨by omega, by trivial, by omega⟩, by omega, ⟨by omega, by trivial, by omega⟩, by omega, ⟨by omega, by trivial, by omega⟩, by omega, ?_⟩
   rw [← List.replicate_succ', ← List.replicate_succ']
   exact ih (i + 1) (by omega) (by omega)
  ·have e : i = w := by omega
   subst e
   rw [dec_f (by omega), cond_false]
   exact hx
theorem lr3 (F : Nat) (x0 : R3) (ls : List Seg) (t12 c0 c1 c2 c3 : Int) (xs ys : LI) (w k : Nat) (hw : xs.length = w + 1) (rt : LB) (part : zzZ) (hk : k < ys.length) (hx1 : xs.length ≤ 1000) (hy1 : ys.length ≤ 1000) (hs : asc xs) (hm : c2 ∈ xs) :
  ∀ (n a : Nat) (up : LB) (f : Nat → Nat → Bool), Tab w ys.length up f → xs.length < n + a →
  (∀ t up', Tab w ys.length up' (fun i j => f i j || decide (a ≤ i ∧ i < below_ xs c2 ∧ j + 1 = k)) → x0 k t ls t12 xs ys c0 c1 c2 c3 rt up' part) →
  a < xs.length → w_zs_3 F x0 n k a ls t12 xs ys c0 c1 c2 c3 rt up part := by
 obtain ⟨hb, hbv⟩ := below_mem hs hm
 intro n
 induction n with
 | zero => intro a up f h1 h2 h3 h4; omega
 | succ n ih =>
  intro a up f hT h2 hx ha
  show g_zs_s3 _ _ _ _ _ _ _ _ _ _ _ _ _ _ _
  unfold g_zs_s3
  refine ⟨show xs.length ≤ 1000000 by omega, ?_⟩
  rw [at_eq hs hm]
  have stop : ¬ (a < below_ xs c2 ∧ 0 < k) → x0 k a ls t12 xs ys c0 c1 c2 c3 rt up part := fun q => by
   refine hx a up (hT.congr fun i j hi hj => ?_)
   rw [decide_eq_false (by omega), Bool.or_false]
  by_cases h : a < below_ xs c2
  ·rw [dec_t (show (a : Int) < (below_ xs c2 : Nat) by omega), cond_true]
   by_cases hk0 : 0 < k
   ·rw [dec_t (show (0 : Int) < (k : Int) by omega), cond_true]
    have ek : w64 ((k : Int) - 1) = ((k - 1 : Nat) : Int) := by rw [w64_of (by omega) (by omega)]; omega
    rw [ek]
    simp only [Int.toNat_natCast]
    have hr := hT.2.1 a (by omega)
    have hl := hT.1
    refine ⟨⟨⟨by omega, by omega⟩, by omega, by omega⟩, ?_⟩
    rw [w64_succ ha (by omega)]
    refine ih (a + 1) _ _ (hT.set (show a < w by omega) (show k - 1 < ys.length by omega)) (by omega) (fun t up' hT' => hx t up' (hT'.congr fun i j hi hj => ?_)) (by omega)
    rw [Bool.or_assoc]
    congr 1
    rw [Bool.eq_iff_iff]
    simp only [Bool.or_eq_true, decide_eq_true_eq]
    omega
   ·rw [dec_f (show ¬ (0 : Int) < (k : Int) by omega), cond_false]
    exact stop (by omega)
  ·rw [dec_f (show ¬ (a : Int) < (below_ xs c2 : Nat) by omega), cond_false]
   exact stop (by omega)
theorem lr4 (F : Nat) (x0 : R3) (ls : List Seg) (t12 c0 c1 c2 c3 : Int) (xs ys : LI) (w b : Nat) (hw : xs.length = w + 1) (up : LB) (part : zzZ) (hb0 : b < xs.length) (hx1 : xs.length ≤ 1000) (hy1 : ys.length ≤ 1000) (hs : asc ys) (hm : c3 ∈ ys) :
  ∀ (n a : Nat) (rt : LB) (f : Nat → Nat → Bool), Tab w ys.length rt f → ys.length < n + a →
  (∀ t rt', Tab w ys.length rt' (fun i j => f i j || decide (i + 1 = b ∧ a ≤ j ∧ j < below_ ys c3)) → x0 b t ls t12 xs ys c0 c1 c2 c3 rt' up part) →
  a < ys.length → w_zs_4 F x0 n b a ls t12 xs ys c0 c1 c2 c3 rt up part := by
 obtain ⟨hb, hbv⟩ := below_mem hs hm
 intro n
 induction n with
 | zero => intro a rt f h1 h2 h3 h4; omega
 | succ n ih =>
  intro a rt f hT h2 hx ha
  show g_zs_s4 _ _ _ _ _ _ _ _ _ _ _ _ _ _ _
  unfold g_zs_s4
  refine ⟨show ys.length ≤ 1000000 by omega, ?_⟩
  rw [at_eq hs hm]
  have stop : ¬ (a < below_ ys c3 ∧ 0 < b) → x0 b a ls t12 xs ys c0 c1 c2 c3 rt up part := fun q => by
   refine hx a rt (hT.congr fun i j hi hj => ?_)
   rw [decide_eq_false (by omega), Bool.or_false]
  by_cases h : a < below_ ys c3
  ·rw [dec_t (show (a : Int) < (below_ ys c3 : Nat) by omega), cond_true]
   by_cases hk0 : 0 < b
   ·rw [dec_t (show (0 : Int) < (b : Int) by omega), cond_true]
    have ek : w64 ((b : Int) - 1) = ((b - 1 : Nat) : Int) := by rw [w64_of (by omega) (by omega)]; omega
    rw [ek]
    simp only [Int.toNat_natCast]
    have hr := hT.2.1 (b - 1) (by omega)
    have hl := hT.1
    rw [dec_t (show ((b - 1 : Nat) : Int) < (rt.length : Int) by omega), cond_true]
    refine ⟨⟨⟨by omega, by omega⟩, by omega, by omega⟩, ?_⟩
    rw [w64_succ ha (by omega)]
    refine ih (a + 1) _ _ (hT.set (show b - 1 < w by omega) ha) (by omega) (fun t rt' hT' => hx t rt' (hT'.congr fun i j hi hj => ?_)) (by omega)
    rw [Bool.or_assoc]
    congr 1
    rw [Bool.eq_iff_iff]
    simp only [Bool.or_eq_true, decide_eq_true_eq]
    omega
   ·rw [dec_f (show ¬ (0 : Int) < (b : Int) by omega), cond_false]
    exact stop (by omega)
  ·rw [dec_f (show ¬ (a : Int) < (below_ ys c3 : Nat) by omega), cond_false]
   exact stop (by omega)
theorem lr2 (F : Nat) (x0 : R2) (ls : List Seg) (hl : ls.length ≤ 200) (wd hd : Int) (xs ys : LI) (w : Nat) (hw : xs.length = w + 1) (hx1 : xs.length ≤ 1000) (hy1 : ys.length ≤ 1000) (hsx : asc xs) (hsy : asc ys) (hF : 2000 < F) (part : zzZ)
  (hls : ∀ s ∈ ls, segOK wd hd s ∧ s.X1 ∈ xs ∧ s.X2 ∈ xs ∧ s.Y1 ∈ ys ∧ s.Y2 ∈ ys)
  (hx : ∀ rt up, Tab w ys.length rt (fun i j => lfG xs ys ls (i + 1) j) → Tab w ys.length up (fun i j => blG xs ys ls i (j + 1)) → x0 ls ls.length xs ys rt up part) :
  ∀ (n i : Nat) (rt up : LB), i ≤ ls.length → ls.length < n + i → Tab w ys.length rt (fun a b => lfG xs ys (ls.take i) (a + 1) b) → Tab w ys.length up (fun a b => blG xs ys (ls.take i) a (b + 1)) → w_zs_2 F x0 n ls i xs ys rt up part := by
 intro n
 induction n with
 | zero => intro i rt up h1 h2; omega
 | succ n ih =>
  intro i rt up h1 h2 hT hU
  show g_zs_s2 _ _ _ _ _ _ _ _ _ _ _
  unfold g_zs_s2
  by_cases hi : i < ls.length
  ·rw [dec_t (show (i : Int) < ls.length by omega), cond_true]
   simp only [Int.toNat_natCast]
   have hms : ls.getD i default ∈ ls := by
    rw [List.getD_eq_getElem?_getD, List.getElem?_eq_getElem hi, Option.getD_some]
    exact List.getElem_mem _
   have hT2 := take_snoc ls i hi
   generalize ls.getD i default = s at hms hT2
   obtain ⟨⟨ho1, ho2⟩, m1, m2, m3, m4⟩ := hls s hms
   refine ⟨⟨by omega, by omega⟩, ?_⟩
   obtain ⟨b1, v1⟩ := below_mem hsx m1
   obtain ⟨b2, v2⟩ := below_mem hsx m2
   obtain ⟨b3, v3⟩ := below_mem hsy m3
   obtain ⟨b4, v4⟩ := below_mem hsy m4
   rw [at_eq hsx m1, at_eq hsy m3]
   by_cases hq : s.Y1 = s.Y2
   ·rw [show (s.Y1 == s.Y2) = true by simpa using hq, cond_true]
    refine ⟨show ys.length ≤ 1000000 by omega, show xs.length ≤ 1000000 by omega, ?_⟩
    show w_zs_3 F (fun t4 t5 qcb qcc l208 l209 qao qap qaq qar qba qbb qbc => g_zs_c3_0 (w_zs_2 F x0 n) x0 t4 t5 qcb qcc l208 l209 qao qap qaq qar qba qbb qbc) F (below_ ys s.Y1 : Nat) (below_ xs s.X1 : Nat) ls i xs ys s.X1 s.Y1 s.X2 s.Y2 rt up part
    refine lr3 F _ ls _ _ _ _ _ xs ys w (below_ ys s.Y1) hw rt part b3 hx1 hy1 hsx m2 F (below_ xs s.X1) up _ hU (by omega) (fun t up' hU' => ?_) b1
    show w_zs_2 F x0 n ls (w64 ((i : Int) + 1)) xs ys rt up' part
    rw [w64_succ hi (by omega)]
    refine ih (i + 1) rt up' (by omega) (by omega) (hT.congr fun a c ha hc => ?_) (hU'.congr fun a c ha hc => ?_)
    ·rw [hT2, lfG_snoc, hq, decide_eq_false (by omega), Bool.or_false]
    ·rw [hT2, blG_snoc]
   ·rw [show (s.Y1 == s.Y2) = false by simpa using hq, cond_false]
    refine ⟨show xs.length ≤ 1000000 by omega, show ys.length ≤ 1000000 by omega, ?_⟩
    have hX : s.X1 = s.X2 := by omega
    show w_zs_4 F (fun t6 t7 qcb qcc l208 l209 qao qap qaq qar qba qbb qbc => g_zs_c4_0 (w_zs_2 F x0 n) x0 t6 t7 qcb qcc l208 l209 qao qap qaq qar qba qbb qbc) F (below_ xs s.X1 : Nat) (below_ ys s.Y1 : Nat) ls i xs ys s.X1 s.Y1 s.X2 s.Y2 rt up part
    refine lr4 F _ ls _ _ _ _ _ xs ys w (below_ xs s.X1) hw up part b1 hx1 hy1 hsy m4 F (below_ ys s.Y1) rt _ hT (by omega) (fun t rt' hT' => ?_) b3
    show w_zs_2 F x0 n ls (w64 ((i : Int) + 1)) xs ys rt' up part
    rw [w64_succ hi (by omega)]
    refine ih (i + 1) rt' up (by omega) (by omega) (hT'.congr fun a c ha hc => ?_) (hU.congr fun a c ha hc => ?_)
    ·rw [hT2, lfG_snoc]
    ·rw [hT2, blG_snoc, hX, decide_eq_false (by omega), Bool.or_false]
  ·have e : i = ls.length := by omega
   subst e
   rw [dec_f (by omega), cond_false]
   rw [List.take_length] at hT hU
   exact hx rt up hT hU
def cdR (x : Option Nat) : Int := match x with
 | none => 0
 | some j => ((j + 1 : Nat) : Int)
theorem cdR_zero (x : Option Nat) : cdR x = 0 ↔ x = none := by
 cases x with
 | none => simp [cdR]
 | some j => simp only [cdR, reduceCtorEq, iff_false]; omega
def encC (c : Pl) : Cel := ⟨c.1, c.2⟩
theorem visit_app (n : Nat) (a : List Pl) : ∀ (l : List Pl) (L : Pl → Option Nat) (b : List Pl), visit n l (L, a ++ b) = ((visit n l (L, b)).1, a ++ (visit n l (L, b)).2)
 | [], L, b => rfl
 | e :: l, L, b => by
  show visit n l (visit1 n (L, a ++ b) e) = ((visit n l (visit1 n (L, b) e)).1, a ++ (visit n l (visit1 n (L, b) e)).2)
  have : visit1 n (L, a ++ b) e = ((visit1 n (L, b) e).1, a ++ (visit1 n (L, b) e).2) := by
   unfold visit1
   by_cases h : L e = none
   ·simp only [h, if_true, List.append_assoc]
   ·simp only [if_neg h]
  rw [this, visit_app n a l]
theorem lr8 (F : Nat) (x0 : R8) (t8 t9 t11 t14 t15 : Int) (xs ys : LI) (rt up : LB) (w h n : Nat) (nx : List Pl) (hnx : ∀ e ∈ nx, e ∈ cellsOf w h) (hnl : nx.length ≤ 1000) (out : List (List Rect)) (s0 : (Pl → Option Nat) × List Pl)
  (hx : ∀ part' queue' s', s' = visit n nx s0 → Arr cdR w h part' s'.1 → queue' = s'.2.map encC → x0 ((n + 1 : Nat) : Int) t8 t9 t11 nx.length t14 t15 xs ys queue' (nx.map encC) out rt up part') :
  ∀ (m i : Nat) (s : (Pl → Option Nat) × List Pl) (part : zzZ) (queue : List Cel), i ≤ nx.length → nx.length < m + i → Arr cdR w h part s.1 → queue = s.2.map encC → free (cellsOf w h) s.1 + s.2.length ≤ 1000000 → visit n (nx.drop i) s = visit n nx s0 →
   w_zs_8 F x0 m ((n + 1 : Nat) : Int) t8 t9 t11 i t14 t15 xs ys queue (nx.map encC) out rt up part := by
 intro m
 induction m with
 | zero => intro i s part queue h1 h2; omega
 | succ m ih =>
  intro i s part queue h1 h2 A hq hr hv
  show g_zs_s8 _ _ _ _ _ _ _ _ _ _ _ _ _ _ _ _ _
  unfold g_zs_s8
  rw [List.length_map]
  by_cases hi : i < nx.length
  ·rw [dec_t (show (i : Int) < (nx.length : Int) by omega), cond_true]
   have hge : (nx.map encC).getD i default = encC (nx.getD i default) := by
    rw [List.getD_eq_getElem?_getD, List.getElem?_map, List.getD_eq_getElem?_getD, List.getElem?_eq_getElem hi]
    rfl
   have hce : nx.getD i default ∈ cellsOf w h := hnx _ (by
    rw [List.getD_eq_getElem?_getD, List.getElem?_eq_getElem hi, Option.getD_some]
    exact List.getElem_mem _)
   rw [drop_getD nx i hi] at hv
   generalize nx.getD i default = c at hge hce hv
   obtain ⟨a, b⟩ := c
   obtain ⟨ha, hb⟩ := mem_cellsOf.1 hce
   replace ha : a < w := ha
   replace hb : b < h := hb
   have e4 : (encC (a, b)).i = (a : Int) := rfl
   have e5 : (encC (a, b)).j = (b : Int) := rfl
   obtain ⟨A1, A2, A3⟩ := id A
   have a2 := A2 a ha
   have a3 := A3 a b ha hb
   have hs1 : visit n (nx.drop (i + 1)) (visit1 n s (a, b)) = visit n nx s0 := hv
   have e6 : w64 ((i : Int) + 1) = ((i + 1 : Nat) : Int) := by rw [w64_of (by omega) (by omega)]; omega
   simp only [Int.toNat_natCast, hge, e4, e5, a3, e6]
   refine ⟨⟨by omega, by omega⟩, ⟨by omega, by omega⟩, ⟨by omega, by omega⟩, ⟨by omega, by omega⟩, ?_⟩
   by_cases hn : s.1 (a, b) = none
   ·rw [show (cdR (s.1 (a, b)) == 0) = true by rw [hn]; rfl, cond_true]
    have hv1 : visit1 n s (a, b) = (upd s.1 (a, b) n, s.2 ++ [(a, b)]) := by
     unfold visit1
     rw [if_pos hn]
    have hfr := free_upd (n := n) hce hn
    have hql : queue.length = s.2.length := by rw [hq, List.length_map]
    refine ⟨⟨by omega, by omega⟩, ⟨by omega, by omega⟩, ⟨by omega, by omega⟩, ⟨by omega, by omega⟩, ⟨⟨by omega, by omega⟩, by simp only [List.length_singleton]; omega⟩, ?_⟩
    refine ih (i + 1) (visit1 n s (a, b)) _ _ (by omega) (by omega) ?_ ?_ ?_ hs1
    ·rw [hv1]
     exact A.set ha hb
    ·rw [hv1, hq, List.map_append]
     rfl
    ·rw [hv1]
     simp only [List.length_append, List.length_singleton]
     omega
   ·rw [show (cdR (s.1 (a, b)) == 0) = false by
     rw [beq_eq_false_iff_ne]
     exact fun q => hn ((cdR_zero _).1 q), cond_false]
    have hv1 : visit1 n s (a, b) = s := by
     unfold visit1
     rw [if_neg hn]
    rw [hv1] at hs1
    exact ih (i + 1) s part queue (by omega) (by omega) A hq hr hs1
  ·have e : i = nx.length := by omega
   subst e
   rw [dec_f (by omega), cond_false]
   rw [List.drop_length] at hv
   exact hx part queue s hv A hq
theorem nxG_of {c : Bool} {r1 r2 : Prop} {b : Bool} {x : Cel} {nx : List Cel} {K : List Cel → Prop} (hc : c = true → r1 ∧ r2) (hl : nx.length ≤ 1000) (hK : ∀ nx', nx' = nx ++ (if c = true ∧ b = false then [x] else []) → nx'.length ≤ nx.length + 1 → K nx') : nxG c r1 r2 b x nx K := by
 unfold nxG
 cases c with
 | false => exact hK nx (by simp) (by omega)
 | true =>
  obtain ⟨h1, h2⟩ := hc rfl
  refine ⟨h1, h2, ?_⟩
  cases b with
  | true => exact hK nx (by simp) (by omega)
  | false => exact ⟨by simp only [List.length_singleton]; omega, hK _ (by simp) (by simp)⟩
theorem if_cel {c b : Bool} {p : Prop} [Decidable p] {x : Cel} {e : Pl} (h : (c = true ∧ b = false) ↔ p) (hx : p → x = encC e) : (if c = true ∧ b = false then [x] else []) = (if p then [e] else []).map encC := by
 by_cases q : p
 ·rw [if_pos (h.2 q), if_pos q, hx q]
  rfl
 ·rw [if_neg (fun z => q (h.1 z)), if_neg q]
  rfl
theorem s7_eq (rec x0 : R7) (i8 : R8) (t3 t8 t9 t11 t14 t15 : Int) (xs ys : LI) (queue : List Cel) (out : List (List Rect)) (rt up : LB) (part : zzZ) :
  g_zs_s7 rec x0 t3 t8 t9 t11 t14 t15 xs ys queue out rt up part i8 =
  cond (decide (t11 < (queue.length : Int))) ((0 ≤ t11 ∧ t11 < queue.length) ∧
   nxG (decide (w64 ((queue.getD t11.toNat default).i + 1) < t8)) (0 ≤ (queue.getD t11.toNat default).i ∧ (queue.getD t11.toNat default).i < rt.length) (0 ≤ (queue.getD t11.toNat default).j ∧ (queue.getD t11.toNat default).j < (rt.getD (queue.getD t11.toNat default).i.toNat default).length)
    ((rt.getD (queue.getD t11.toNat default).i.toNat default).getD (queue.getD t11.toNat default).j.toNat default) (Cel.mk (w64 ((queue.getD t11.toNat default).i + 1)) (queue.getD t11.toNat default).j) [] fun nx =>
   nxG (decide (0 < (queue.getD t11.toNat default).i)) (0 ≤ w64 ((queue.getD t11.toNat default).i - 1) ∧ w64 ((queue.getD t11.toNat default).i - 1) < rt.length) (0 ≤ (queue.getD t11.toNat default).j ∧ (queue.getD t11.toNat default).j < (rt.getD (w64 ((queue.getD t11.toNat default).i - 1)).toNat default).length)
    ((rt.getD (w64 ((queue.getD t11.toNat default).i - 1)).toNat default).getD (queue.getD t11.toNat default).j.toNat default) (Cel.mk (w64 ((queue.getD t11.toNat default).i - 1)) (queue.getD t11.toNat default).j) nx fun nx =>
   nxG (decide (w64 ((queue.getD t11.toNat default).j + 1) < t9)) (0 ≤ (queue.getD t11.toNat default).i ∧ (queue.getD t11.toNat default).i < up.length) (0 ≤ (queue.getD t11.toNat default).j ∧ (queue.getD t11.toNat default).j < (up.getD (queue.getD t11.toNat default).i.toNat default).length)
    ((up.getD (queue.getD t11.toNat default).i.toNat default).getD (queue.getD t11.toNat default).j.toNat default) (Cel.mk (queue.getD t11.toNat default).i (w64 ((queue.getD t11.toNat default).j + 1))) nx fun nx =>
   nxG (decide (0 < (queue.getD t11.toNat default).j)) (0 ≤ (queue.getD t11.toNat default).i ∧ (queue.getD t11.toNat default).i < up.length) (0 ≤ w64 ((queue.getD t11.toNat default).j - 1) ∧ w64 ((queue.getD t11.toNat default).j - 1) < (up.getD (queue.getD t11.toNat default).i.toNat default).length)
    ((up.getD (queue.getD t11.toNat default).i.toNat default).getD (w64 ((queue.getD t11.toNat default).j - 1)).toNat default) (Cel.mk (queue.getD t11.toNat default).i (w64 ((queue.getD t11.toNat default).j - 1))) nx fun nx =>
   i8 t3 t8 t9 t11 0 t14 t15 xs ys queue nx out rt up part) (x0 t3 t8 t9 t11 t14 t15 xs ys queue out rt up part) := rfl
def nxs (w h : Nat) (f g : Nat → Nat → Bool) (i k : Nat) : List Pl :=
 (if i + 1 < w ∧ f (i + 1) k = false then [(i + 1, k)] else []) ++ (if 0 < i ∧ f i k = false then [(i - 1, k)] else []) ++ (if k + 1 < h ∧ g i (k + 1) = false then [(i, k + 1)] else []) ++ (if 0 < k ∧ g i k = false then [(i, k - 1)] else [])
theorem nxs_mem {w h : Nat} {f g : Nat → Nat → Bool} {i k : Nat} (hci : i < w) (hck : k < h) (e : Pl) : e ∈ nxs w h f g i k ↔ e ∈ nbs w h f g (i, k) := by
 have hnb : nbs w h f g (i, k) = (if 0 < i ∧ f i k = false then [(i - 1, k)] else []) ++ (if i + 1 < w ∧ f (i + 1) k = false then [(i + 1, k)] else []) ++ (if 0 < k ∧ g i k = false then [(i, k - 1)] else []) ++ (if k + 1 < h ∧ g i (k + 1) = false then [(i, k + 1)] else []) := by
  unfold nbs
  rw [if_pos ⟨hci, hck⟩]
 rw [hnb]
 unfold nxs
 simp only [List.mem_append]
 generalize (e ∈ if i + 1 < w ∧ f (i + 1) k = false then [(i + 1, k)] else []) = A
 generalize (e ∈ if 0 < i ∧ f i k = false then [(i - 1, k)] else []) = B
 generalize (e ∈ if k + 1 < h ∧ g i (k + 1) = false then [(i, k + 1)] else []) = C
 generalize (e ∈ if 0 < k ∧ g i k = false then [(i, k - 1)] else []) = D
 constructor
 ·rintro (((q | q) | q) | q)
  ·exact .inl (.inl (.inr q))
  ·exact .inl (.inl (.inl q))
  ·exact .inr q
  ·exact .inl (.inr q)
 ·rintro (((q | q) | q) | q)
  ·exact .inl (.inl (.inr q))
  ·exact .inl (.inl (.inl q))
  ·exact .inr q
  ·exact .inl (.inr q)
set_option maxHeartbeats 1000000 in
theorem lr7 (F : Nat) (x0 : R7) (t14 t15 : Int) (xs ys : LI) (rt up : LB) (f g : Nat → Nat → Bool) (w h n : Nat) (hw1 : w ≤ 1000) (hh : ys.length = h + 1) (hh1 : h ≤ 1000) (hF : 1000000 < F + 1)
  (hT : Tab w ys.length rt (fun i j => f (i + 1) j)) (hU : Tab w ys.length up (fun i j => g i (j + 1))) (out : List (List Rect)) (L0 : Pl → Option Nat) (c0 : Pl) (h0 : L0 c0 = none) (hf : ∀ d, L0 d ≠ some n)
  (hx : ∀ t queue' part', Arr cdR w h part' (fillA (nbs w h f g) L0 c0 n) → x0 ((n + 1 : Nat) : Int) w h t t14 t15 xs ys queue' out rt up part') :
  ∀ (m t : Nat) (L : Pl → Option Nat) (S : List Pl) (part : zzZ) (queue : List Cel), Arr cdR w h part L → queue = S.map encC → t ≤ S.length → WInv (nbs w h f g) (cellsOf w h) L0 c0 n (fun _ => False) L (S.drop t) → free (cellsOf w h) L + S.length ≤ 1000000 → free (cellsOf w h) L + (S.length - t) < m →
   w_zs_7 F x0 m ((n + 1 : Nat) : Int) w h t t14 t15 xs ys queue out rt up part := by
 intro m
 induction m with
 | zero => intro t L S part queue A hq ht W hr hm; omega
 | succ m ih =>
  intro t L S part queue A hq ht W hr hm
  show g_zs_s7 _ _ _ _ _ _ _ _ _ _ _ _ _ _ _ _
  rw [s7_eq]
  have hql : queue.length = S.length := by rw [hq, List.length_map]
  by_cases hlt : t < S.length
  ·rw [dec_t (show (t : Int) < (queue.length : Int) by omega), cond_true]
   have hge : queue.getD t default = encC (S.getD t default) := by
    rw [hq, List.getD_eq_getElem?_getD, List.getElem?_map, List.getD_eq_getElem?_getD, List.getElem?_eq_getElem hlt]
    rfl
   have hdr := drop_getD S t hlt
   generalize S.getD t default = c at hge hdr
   rw [hdr] at W
   obtain ⟨hcn, hcc⟩ := W.mem c (by simp)
   obtain ⟨i, k⟩ := c
   obtain ⟨hci, hck⟩ := mem_cellsOf.1 hcc
   replace hci : i < w := hci
   replace hck : k < h := hck
   have e4 : (encC (i, k)).i = (i : Int) := rfl
   have e5 : (encC (i, k)).j = (k : Int) := rfl
   have e6 : w64 ((i : Int) + 1) = ((i + 1 : Nat) : Int) := by rw [w64_of (by omega) (by omega)]; omega
   have e7 : w64 ((k : Int) + 1) = ((k + 1 : Nat) : Int) := by rw [w64_of (by omega) (by omega)]; omega
   have e8 : w64 ((i : Int) - 1) = (i : Int) - 1 := w64_of (by omega) (by omega)
   have e9 : w64 ((k : Int) - 1) = (k : Int) - 1 := w64_of (by omega) (by omega)
   have e10 : ((i : Int) - 1).toNat = i - 1 := by omega
   have e11 : ((k : Int) - 1).toNat = k - 1 := by omega
   obtain ⟨T1, T2, T3⟩ := hT
   obtain ⟨U1, U2, U3⟩ := hU
   have t2 := T2 i hci
   have u2 := U2 i hci
   have t3 := T3 i k hci (by omega)
   have u3 := U3 i k hci (by omega)
   simp only at t3 u3
   rw [Int.toNat_natCast, hge, e4, e5, e6, e7, e8, e9, e10, e11, Int.toNat_natCast, Int.toNat_natCast]
   refine ⟨⟨by omega, by omega⟩, ?_⟩
   refine nxG_of (fun q => ⟨⟨by omega, by omega⟩, by omega, by omega⟩) (by simp) fun n1 en1 ln1 => ?_
   have hl1 : (decide (((i + 1 : Nat) : Int) < (w : Int)) = true ∧ (rt.getD i default).getD k default = false) ↔ (i + 1 < w ∧ f (i + 1) k = false) := by
    rw [t3, decide_eq_true_eq]
    constructor <;> (intro q; exact ⟨by omega, q.2⟩)
   rw [List.nil_append, if_cel (x := Cel.mk ((i + 1 : Nat) : Int) k) (e := (i + 1, k)) hl1 (fun _ => rfl)] at en1
   refine nxG_of (fun q => ?_) (by simp at ln1; omega) fun n2 en2 ln2 => ?_
   ·have q := of_decide_eq_true q
    have := T2 (i - 1) (by omega)
    exact ⟨⟨by omega, by omega⟩, by omega, by omega⟩
   have hl2 : (decide ((0 : Int) < (i : Int)) = true ∧ (rt.getD (i - 1) default).getD k default = false) ↔ (0 < i ∧ f i k = false) := by
    rw [decide_eq_true_eq]
    constructor
    ·rintro ⟨q1, q2⟩
     have := T3 (i - 1) k (by omega) (by omega)
     simp only [show i - 1 + 1 = i by omega] at this
     exact ⟨by omega, by rw [← this]; exact q2⟩
    ·rintro ⟨q1, q2⟩
     have := T3 (i - 1) k (by omega) (by omega)
     simp only [show i - 1 + 1 = i by omega] at this
     exact ⟨by omega, by rw [this]; exact q2⟩
   rw [if_cel (x := Cel.mk ((i : Int) - 1) k) (e := (i - 1, k)) hl2 (fun q => by
    unfold encC
    rw [show ((i : Int) - 1) = ((i - 1 : Nat) : Int) by omega])] at en2
   refine nxG_of (fun q => ⟨⟨by omega, by omega⟩, by omega, by omega⟩) (by simp at ln1; omega) fun n3 en3 ln3 => ?_
   have hl3 : (decide (((k + 1 : Nat) : Int) < (h : Int)) = true ∧ (up.getD i default).getD k default = false) ↔ (k + 1 < h ∧ g i (k + 1) = false) := by
    rw [u3, decide_eq_true_eq]
    constructor <;> (intro q; exact ⟨by omega, q.2⟩)
   rw [if_cel (x := Cel.mk i ((k + 1 : Nat) : Int)) (e := (i, k + 1)) hl3 (fun _ => rfl)] at en3
   refine nxG_of (fun q => ?_) (by simp at ln1; omega) fun n4 en4 ln4 => ?_
   ·have q := of_decide_eq_true q
    exact ⟨⟨by omega, by omega⟩, by omega, by omega⟩
   have hl4 : (decide ((0 : Int) < (k : Int)) = true ∧ (up.getD i default).getD (k - 1) default = false) ↔ (0 < k ∧ g i k = false) := by
    rw [decide_eq_true_eq]
    constructor
    ·rintro ⟨q1, q2⟩
     have := U3 i (k - 1) (by omega) (by omega)
     simp only [show k - 1 + 1 = k by omega] at this
     exact ⟨by omega, by rw [← this]; exact q2⟩
    ·rintro ⟨q1, q2⟩
     have := U3 i (k - 1) (by omega) (by omega)
     simp only [show k - 1 + 1 = k by omega] at this
     exact ⟨by omega, by rw [this]; exact q2⟩
   rw [if_cel (x := Cel.mk i ((k : Int) - 1)) (e := (i, k - 1)) hl4 (fun q => by
    unfold encC
    rw [show ((k : Int) - 1) = ((k - 1 : Nat) : Int) by omega])] at en4
   have hnl : n4.length ≤ 4 := by simp at ln1; omega
   rw [en1] at en2
   rw [en2, ← List.map_append] at en3
   rw [en3, ← List.map_append, ← List.map_append] at en4
   clear en1 en2 en3 ln1 ln2 ln3 ln4
   have hin : ∀ e, e ∈ nxs w h f g i k ↔ e ∈ nbs w h f g (i, k) := fun e => nxs_mem hci hck e
   change n4 = (nxs w h f g i k).map encC at en4
   generalize nxs w h f g i k = nx at en4 hin
   subst en4
   rw [List.length_map] at hnl
   have hcells : ∀ e ∈ nx, e ∈ cellsOf w h := fun e he => nbs_cells ((hin e).1 he)
   show w_zs_8 F (fun t3 t8 t9 t11 t14 qcd qce l208 l209 qbd qbe qbf qbg qbh qbi => g_zs_c8_0 (w_zs_7 F x0 m) x0 t3 t8 t9 t11 t14 qcd qce l208 l209 qbd qbe qbf qbg qbh qbi) F ((n + 1 : Nat) : Int) w h t (0 : Nat) t14 t15 xs ys queue (nx.map encC) out rt up part
   refine lr8 F _ _ _ _ _ _ xs ys rt up w h n nx hcells (by omega) out (L, S) (fun part' queue' s' hs' A' hq' => ?_) F 0 (L, S) part queue (by omega) (by omega) A hq hr rfl
   show w_zs_7 F x0 m ((n + 1 : Nat) : Int) w h (w64 ((t : Int) + 1)) t14 t15 xs ys queue' out rt up part'
   rw [w64_succ hlt (by omega)]
   have hfree := visit_free (n := n) (cells := cellsOf w h) nx (L, S) hcells
   have hsp : visit n nx (L, S) = ((visit n nx (L, S.drop (t + 1))).1, S.take (t + 1) ++ (visit n nx (L, S.drop (t + 1))).2) := by
    rw [← visit_app, List.take_append_drop]
   have htl : (S.take (t + 1)).length = t + 1 := by rw [List.length_take]; omega
   have hW := W.next (c := (i, k)) (rest := S.drop (t + 1)) (l := nx) (by simp) (fun d hd => by
    rcases List.mem_cons.1 hd with q | q
    ·exact .inl q
    ·exact .inr q) (fun d hd => List.mem_cons_of_mem _ hd) hf (fun e he => ⟨(hin e).1 he, hcells e he⟩) (fun e he => (hin e).2 he)
   rw [← hs'] at hfree
   simp only at hfree
   have e1 : s'.1 = (visit n nx (L, S.drop (t + 1))).1 := by rw [hs', hsp]
   have e2 : s'.2 = S.take (t + 1) ++ (visit n nx (L, S.drop (t + 1))).2 := by rw [hs', hsp]
   have hl2' : t + 1 ≤ s'.2.length := by
    rw [e2, List.length_append, htl]
    omega
   refine ih (t + 1) s'.1 s'.2 part' queue' A' hq' hl2' ?_ (by omega) (by omega)
   have e3 : s'.2.drop (t + 1) = (visit n nx (L, S.drop (t + 1))).2 := by
    rw [e2]
    exact List.drop_left' htl
   rw [e1, e3]
   exact hW
  ·have e : t = S.length := by omega
   subst e
   rw [dec_f (by omega), cond_false]
   rw [List.drop_length] at W
   refine hx _ queue part ?_
   rw [← W.done h0]
   exact A
theorem lr6 (F : Nat) (x0 : R6) (xs ys : LI) (rt up : LB) (f g : Nat → Nat → Bool) (w h : Nat) (hw : xs.length = w + 1) (hh : ys.length = h + 1) (hw1 : w ≤ 1000) (hh1 : h ≤ 1000) (hF : 1000000 < F + 1) (hwh : h * w ≤ 10000)
  (hbx : ∀ j, j < xs.length → 0 ≤ xs.getD j default ∧ xs.getD j default ≤ 1048576) (hby : ∀ j, j < ys.length → 0 ≤ ys.getD j default ∧ ys.getD j default ≤ 1048576)
  (hT : Tab w ys.length rt (fun i j => f (i + 1) j)) (hU : Tab w ys.length up (fun i j => g i (j + 1))) (k : Nat) (hk : k < h)
  (hx : ∀ part' out' L', sepRun (nbs w h f g) (rectG xs ys) (preC w k w) (fun _ => none, []) = (L', out') → Arr cdR w h part' L' → x0 k w xs ys rt up part' out') :
  ∀ (n i : Nat) (part : zzZ) (out : List (List Rect)) (L : Pl → Option Nat), i ≤ w → w < n + i → sepRun (nbs w h f g) (rectG xs ys) (preC w k i) (fun _ => none, []) = (L, out) → Arr cdR w h part L →
   w_zs_6 F x0 n k i xs ys rt up part out := by
 intro n
 induction n with
 | zero => intro i part out L h1 h2; omega
 | succ n ih =>
  intro i part out L h1 h2 hrun A
  show g_zs_s6 _ _ _ _ _ _ _ _ _ _ _
  unfold g_zs_s6
  have e1 : w64 ((i : Int) + 1) = ((i + 1 : Nat) : Int) := by rw [w64_of (by omega) (by omega)]; omega
  rw [e1]
  by_cases hi : i < w
  ·rw [dec_t (show ((i + 1 : Nat) : Int) < (xs.length : Int) by omega), cond_true]
   have hinv := SInv.run (nbs_sym (w := w) (h := h) (lf := f) (bl := g)) (rect := rectG xs ys) (preC w k i) [] (fun _ => none, []) (SInv.nil _ _)
   rw [hrun, List.nil_append] at hinv
   simp only at hinv
   have hpl : (preC w k i).length ≤ 10000 := by
    rw [preC_len]
    have : (k + 1) * w ≤ h * w := Nat.mul_le_mul_right w hk
    rw [Nat.succ_mul] at this
    omega
   have hol : out.length ≤ 10000 := by
    have := sepRun_len (nbs w h f g) (rectG xs ys) (preC w k i) (fun _ => none, [])
    rw [hrun] at this
    simp at this
    omega
   have hml : ∀ j, (out.getD j default).length ≤ 10000 := fun j => by
    refine Nat.le_trans (flatten_mem_len out j) ?_
    rw [hinv.perm.length_eq, List.length_map]
    exact hpl
   have hnext : sepRun (nbs w h f g) (rectG xs ys) (preC w k (i + 1)) (fun _ => none, []) = sepStep (nbs w h f g) (rectG xs ys) (L, out) (i, k) := by
    rw [preC_succ, sepRun_append, hrun]
    rfl
   obtain ⟨A1, A2, A3⟩ := id A
   have a2 := A2 i hi
   have a3 := A3 i k hi hk
   have e2 : w64 ((k : Int) + 1) = ((k + 1 : Nat) : Int) := by rw [w64_of (by omega) (by omega)]; omega
   have e8 : w64 ((xs.length : Int) - 1) = (w : Nat) := by rw [w64_of (by omega) (by omega)]; omega
   have e9 : w64 ((ys.length : Int) - 1) = (h : Nat) := by rw [w64_of (by omega) (by omega)]; omega
   have er : Rect.mk (xs.getD i default) (ys.getD k default) (w64 (xs.getD (i + 1) default - xs.getD i default)) (w64 (ys.getD (k + 1) default - ys.getD k default)) = rectG xs ys (i, k) := by
    have b1 := hbx i (by omega)
    have b2 := hbx (i + 1) (by omega)
    have b3 := hby k (by omega)
    have b4 := hby (k + 1) (by omega)
    rw [w64_of (by omega) (by omega), w64_of (by omega) (by omega)]
    rfl
   simp only [Int.toNat_natCast, e2, e8, e9, er, a3]
   refine ⟨⟨⟨by omega, by omega⟩, by omega, by omega⟩, ?_⟩
   cases hL : L (i, k) with
   | none =>
    rw [hL] at a3
    rw [show (cdR none == 0) = true by rfl, cond_true]
    have hlen2 : (out ++ [([] : List Rect)]).length = out.length + 1 := by simp
    rw [hlen2]
    refine ⟨by simp only [List.length_singleton]; omega, ⟨⟨by omega, by omega⟩, by omega, by omega⟩, ?_⟩
    show w_zs_7 F (fun t3 t8 t9 t11 qcd qce l208 l209 qbd qbe qbf qbg qbh => g_zs_c7_0 (w_zs_6 F x0 n) x0 t3 t8 t9 t11 qcd qce l208 l209 qbd qbe qbf qbg qbh) F ((out.length + 1 : Nat) : Int) w h (0 : Nat) k i xs ys [Cel.mk i k] (out ++ [[]]) rt up (part.set i ((part.getD i default).set k ((out.length + 1 : Nat) : Int)))
    have hf : ∀ d, L d ≠ some out.length := fun d q => by
     have := hinv.bound d _ q
     omega
    have hcm : (i, k) ∈ cellsOf w h := mem_cellsOf.2 ⟨hi, hk⟩
    have hfl := free_le (cellsOf w h) (upd L (i, k) out.length)
    rw [cellsOf_len] at hfl
    refine lr7 F _ _ _ xs ys rt up f g w h out.length hw1 hh hh1 hF hT hU (out ++ [[]]) L (i, k) hL hf (fun t queue' part' A' => ?_) F 0 (upd L (i, k) out.length) [(i, k)] _ _ (A.set hi hk) rfl (by simp) (WInv.init hL hcm hf) (by simp; omega) (by simp; omega)
    obtain ⟨B1, B2, B3⟩ := id A'
    have b2 := B2 i hi
    have b3 := B3 i k hi hk
    have hcc : fillA (nbs w h f g) L (i, k) out.length (i, k) = some out.length := by
     unfold fillA
     rw [if_pos .base]
    rw [hcc] at b3
    show g_zs_c7_0 _ _ _ _ _ _ _ _ _ _ _ _ _ _ _
    unfold g_zs_c7_0
    have b4 : (part'.getD i default).getD k default = ((out.length + 1 : Nat) : Int) := b3
    have b5 : w64 (((out.length + 1 : Nat) : Int) - 1) = ((out.length : Nat) : Int) := by rw [w64_of (by omega) (by omega)]; omega
    have hg0 : (out ++ [[]]).getD out.length default = ([] : List Rect) := by simp
    simp only [Int.toNat_natCast, e1, e2, er, b4, b5, hlen2, hg0, List.length_set, List.length_nil, List.length_singleton, List.nil_append]
    refine ⟨⟨⟨by omega, by omega⟩, by omega, by omega⟩, ⟨by omega, by omega⟩, ⟨by omega, by omega⟩, ⟨by omega, by omega⟩, ⟨by omega, by omega⟩, ⟨by omega, by omega⟩, ⟨by omega, by omega⟩, ⟨by omega, by omega⟩, by omega, ⟨by omega, by omega⟩, ⟨by trivial, by trivial⟩, ?_⟩
    refine ih (i + 1) _ _ (fillA (nbs w h f g) L (i, k) out.length) (by omega) (by omega) ?_ A'
    rw [hnext]
    unfold sepStep
    simp only [hL, if_true, hcc, Option.getD_some, hg0, List.nil_append]
   | some j =>
    rw [hL] at a3
    have hjb := hinv.bound _ _ hL
    have hj0 : cdR (some j) = ((j + 1 : Nat) : Int) := rfl
    have hm := hml j
    have b5 : w64 (((j + 1 : Nat) : Int) - 1) = ((j : Nat) : Int) := by rw [w64_of (by omega) (by omega)]; omega
    rw [hj0, show (((j + 1 : Nat) : Int) == 0) = false by rw [beq_eq_false_iff_ne]; omega, cond_false]
    simp only [b5, Int.toNat_natCast, List.length_set, List.length_singleton]
    refine ⟨⟨⟨by omega, by omega⟩, by omega, by omega⟩, ⟨by omega, by omega⟩, ⟨by omega, by omega⟩, ⟨by omega, by omega⟩, ⟨by omega, by omega⟩, ⟨by omega, by omega⟩, ⟨by omega, by omega⟩, ⟨by omega, by omega⟩, by omega, ⟨by omega, by omega⟩, ⟨by trivial, by trivial⟩, ?_⟩
    refine ih (i + 1) _ _ L (by omega) (by omega) ?_ A
    rw [hnext]
    unfold sepStep
    simp only [hL, Option.getD_some, reduceCtorEq, if_false]
  ·have e : i = w := by omega
   subst e
   rw [dec_f (by omega), cond_false]
   exact hx part out L hrun A
theorem lr5 (F : Nat) (x0 : R5) (xs ys : LI) (rt up : LB) (f g : Nat → Nat → Bool) (w h : Nat) (hw : xs.length = w + 1) (hh : ys.length = h + 1) (hw1 : w ≤ 1000) (hh1 : h ≤ 1000) (hF : 1000000 < F + 1) (hwh : h * w ≤ 10000)
  (hbx : ∀ j, j < xs.length → 0 ≤ xs.getD j default ∧ xs.getD j default ≤ 1048576) (hby : ∀ j, j < ys.length → 0 ≤ ys.getD j default ∧ ys.getD j default ≤ 1048576)
  (hT : Tab w ys.length rt (fun i j => f (i + 1) j)) (hU : Tab w ys.length up (fun i j => g i (j + 1)))
  (hx : ∀ part, x0 h xs ys rt up part (sepA (nbs w h f g) (rectG xs ys) (cellsOf w h))) :
  ∀ (n k : Nat) (part : zzZ) (out : List (List Rect)) (L : Pl → Option Nat), k ≤ h → h < n + k → sepRun (nbs w h f g) (rectG xs ys) (preC w k 0) (fun _ => none, []) = (L, out) → Arr cdR w h part L →
   w_zs_5 F x0 n k xs ys rt up part out := by
 intro n
 induction n with
 | zero => intro k part out L h1 h2; omega
 | succ n ih =>
  intro k part out L h1 h2 hrun A
  show g_zs_s5 _ _ _ _ _ _ _ _ _ _
  unfold g_zs_s5
  have e1 : w64 ((k : Int) + 1) = ((k + 1 : Nat) : Int) := by rw [w64_of (by omega) (by omega)]; omega
  rw [e1]
  by_cases hk : k < h
  ·rw [dec_t (show ((k + 1 : Nat) : Int) < (ys.length : Int) by omega), cond_true]
   show w_zs_6 F (fun t14 t15 l208 l209 l210 l211 l212 l213 => g_zs_c6_0 (w_zs_5 F x0 n) x0 t14 t15 l208 l209 l210 l211 l212 l213) F k (0 : Nat) xs ys rt up part out
   refine lr6 F _ xs ys rt up f g w h hw hh hw1 hh1 hF hwh hbx hby hT hU k hk (fun part' out' L' hrun' A' => ?_) F 0 part out L (by omega) (by omega) hrun A
   show w_zs_5 F x0 n (w64 ((k : Int) + 1)) xs ys rt up part' out'
   rw [w64_succ hk (by omega)]
   rw [preC_row] at hrun'
   exact ih (k + 1) part' out' L' (by omega) (by omega) hrun' A'
  ·have e : k = h := by omega
   subst e
   rw [dec_f (by omega), cond_false]
   have e2 : preC w k 0 = cellsOf w k := by
    unfold preC
    simp
   rw [e2] at hrun
   have := hx part
   unfold sepA at this
   rw [hrun] at this
   exact this
theorem arr_rep0 (w h : Nat) (m n : Nat) (hw : w ≤ m) (hh : h ≤ n) : Arr cdR w h (List.replicate m (List.replicate n 0)) (fun _ => none) := by
 have e : ∀ i, i < m → (List.replicate m (List.replicate n (0 : Int))).getD i default = List.replicate n 0 := fun i hi => by
  rw [List.getD_eq_getElem?_getD, List.getElem?_replicate, if_pos hi]
  rfl
 refine ⟨by simpa using hw, fun i hi => by rw [e i (by omega)]; simpa using hh, fun i k hi hk => ?_⟩
 rw [e i (by omega), List.getD_eq_getElem?_getD, List.getElem?_replicate, if_pos (by omega)]
 rfl
theorem ref_size {nm mt : ByteArray} {g gr w h : Int} {cl us : List Rect} (h1 : (sp_zb nm mt g gr w h cl us != 0) = false) : 1 ≤ w ∧ w ≤ 1048576 ∧ 1 ≤ h ∧ h ≤ 1048576 := by
 rw [← sheet_same] at h1
 exact sheet_size h1
theorem ok_zs (qe qf : ByteArray) (qg qh qa qb : Int) (qc qd : List Rect) (a1 : List Seg) (h : pre_zs qe qf qg qh qa qb qc qd a1) : ∃ F, ∀ Q : List (List Rect) → Int → Prop, Q ((sp_zs qe qf qg qh qa qb qc qd a1).1) ((sp_zs qe qf qg qh qa qb qc qd a1).2) → w_zs F qe qf qg qh qa qb qc qd a1 Q := by
 refine ⟨1000001, fun Q hQ => ?_⟩
 generalize hFq : 1000001 = F
 have hF : 1000000 < F := by omega
 clear hFq
 unfold w_zs g_zs_e
 unfold sp_zs at hQ
 dsimp only
 refine ⟨h, ?_⟩
 cases h1 : (sp_zb qe qf qg qh qa qb qc qd != 0) with
 | true =>
  rw [h1] at hQ
  exact hQ
 | false =>
 rw [h1] at hQ
 simp only [cond_false] at hQ ⊢
 by_cases h2 : 200 < (a1.length : Int)
 ·rw [dec_t h2] at hQ ⊢
  exact hQ
 rw [dec_f h2] at hQ ⊢
 simp only [cond_false] at hQ ⊢
 obtain ⟨w1, w2, w3, w4⟩ := ref_size h1
 show w_zs_0 F (fun t1 t5 t9 c2_0 c2_1 c2_2 c2_3 c2_4 c2_5 c2_6 c2_7 l208 l209 => g_zs_c0_0 Q t1 t5 t9 c2_0 c2_1 c2_2 c2_3 c2_4 c2_5 c2_6 c2_7 l208 l209) (fun t1 t5 t9 c2_0 c2_1 c2_2 c2_3 c2_4 c2_5 c2_6 c2_7 l208 l209 => g_zs_c0_1 Q t1 t5 t9 c2_0 c2_1 c2_2 c2_3 c2_4 c2_5 c2_6 c2_7 l208 l209 (n_zs_1 F Q)) F a1 0 (0 : Nat) qe qf qg qh qa qb qc qd [0, qa] [0, qb]
 refine lr0 F _ _ a1 qe qf qg qh qa qb qc qd (by omega) F 0 _ _ (by omega) (by omega) (by simp) (by simp) (fun q j xs ys => ?_) (fun q => ?_)
 ·rw [List.drop_zero] at q
  rw [q] at hQ
  exact hQ
 rw [List.drop_zero] at q
 rw [q] at hQ
 simp only [Bool.not_true, cond_false] at hQ
 have hok : ∀ s ∈ a1, segOK qa qb s := fun s hs => linB_iff.1 (List.all_eq_true.1 q s hs)
 rw [List.drop_zero, gxs_fold w1, gys_fold w3]
 show g_zs_c0_1 _ _ _ _ _ _ _ _ _ _ _ _ _ _ _
 unfold g_zs_c0_1
 have gx := gxs_len qa a1
 have gy := gys_len qb a1
 have px := gxs_pos qa a1
 have py := gys_pos qb a1
 have ax := gxs_asc qa a1
 have ay := gys_asc qb a1
 have mx := fun x => gxs_mem (w := qa) (ls := a1) (x := x)
 have my := fun x => gys_mem (h := qb) (ls := a1) (x := x)
 unfold partsG nbG at hQ
 generalize gxs qa a1 = xs at *
 generalize gys qb a1 = ys at *
 have hxw : ∃ w : Nat, xs.length = w + 1 := ⟨xs.length - 1, by omega⟩
 have hyh : ∃ w : Nat, ys.length = w + 1 := ⟨ys.length - 1, by omega⟩
 obtain ⟨w, hw⟩ := hxw
 obtain ⟨hh, hhh⟩ := hyh
 have ew : ((xs.length : Int) - 1) = (w : Nat) := by omega
 have eh : ((ys.length : Int) - 1) = (hh : Nat) := by omega
 have ew' : xs.length - 1 = w := by omega
 have eh' : ys.length - 1 = hh := by omega
 have hmul : w * hh ≤ 1000 * 1000 := Nat.mul_le_mul (by omega) (by omega)
 have emul : (w : Int) * (hh : Int) = ((w * hh : Nat) : Int) := by push_cast; rfl
 rw [ew, eh, emul, ew', eh'] at hQ
 rw [ew, eh, w64_of (n := (w : Int)) (by omega) (by omega), w64_of (n := (hh : Int)) (by omega) (by omega), emul, w64_of (by omega) (by omega)]
 dsimp only
 by_cases h3 : 6000 < ((w * hh : Nat) : Int)
 ·rw [dec_t h3] at hQ ⊢
  exact hQ
 rw [dec_f h3] at hQ ⊢
 simp only [cond_false] at hQ ⊢
 have hls : ∀ s ∈ a1, segOK qa qb s ∧ s.X1 ∈ xs ∧ s.X2 ∈ xs ∧ s.Y1 ∈ ys ∧ s.Y2 ∈ ys := fun s hs =>
  ⟨hok s hs, (mx _).2 (.inr (.inr ⟨s, hs, .inl rfl⟩)), (mx _).2 (.inr (.inr ⟨s, hs, .inr rfl⟩)), (my _).2 (.inr (.inr ⟨s, hs, .inl rfl⟩)), (my _).2 (.inr (.inr ⟨s, hs, .inr rfl⟩))⟩
 have hbx : ∀ j, j < xs.length → 0 ≤ xs.getD j default ∧ xs.getD j default ≤ 1048576 := fun j hj => by
  rcases (mx _).1 (getD_mem_ hj) with e | e | ⟨s, hs, e⟩
  ·omega
  ·omega
  ·have := (hok s hs).1
   omega
 have hby : ∀ j, j < ys.length → 0 ≤ ys.getD j default ∧ ys.getD j default ≤ 1048576 := fun j hj => by
  rcases (my _).1 (getD_mem_ hj) with e | e | ⟨s, hs, e⟩
  ·omega
  ·omega
  ·have := (hok s hs).1
   omega
 show w_zs_1 F (fun t6 qcb l208 l209 qax qay qaz => g_zs_c1_0 Q t6 qcb l208 l209 qax qay qaz (n_zs_2 F Q)) F (0 : Nat) a1 xs ys (List.replicate 0 (List.replicate ys.length false)) (List.replicate 0 (List.replicate ys.length false)) (List.replicate 0 (List.replicate ys.length 0))
 refine lr1 F _ a1 xs ys w hw (by omega) (by omega) ?_ F 0 (by omega) (by omega)
 show w_zs_2 F (fun t1 t12 l208 l209 l210 l211 l212 => g_zs_c2_0 Q t1 t12 l208 l209 l210 l211 l212 (n_zs_5 F Q)) F a1 (0 : Nat) xs ys _ _ _
 refine lr2 F _ a1 (by omega) qa qb xs ys w hw (by omega) (by omega) ax ay (by omega) _ hls (fun rt up hT hU => ?_) F 0 _ _ (by omega) (by omega) (Tab.rep _ _) (Tab.rep _ _)
 show w_zs_5 F (fun t14 l208 l209 l210 l211 l212 l213 => g_zs_c5_0 Q t14 l208 l209 l210 l211 l212 l213) F (0 : Nat) xs ys rt up _ []
 refine lr5 F _ xs ys rt up _ _ w hh hw hhh (by omega) (by omega) (by omega) (by rw [Nat.mul_comm]; omega) hbx hby hT hU (fun part => ?_) F 0 _ [] (fun _ => none) (by omega) (by omega) ?_ (arr_rep0 w hh _ _ (by omega) (by omega))
 ·exact hQ
 ·unfold preC cellsOf
  rfl
def M_zk : Nat → Nat → Nat → Canon UU := fun o b r => cond (Nat.beq b 0) ⟨[0, 1, 4, 5], [], [], [], []⟩ (⟨[], [], [], [], []⟩)
def st_zk_0 (t0 t1 : List Rect) (t4 : Bool) (t5 : Int) : ASt UU := ⟨fun u => cond (Nat.beq u 0) (.sl .rect t0) (cond (Nat.beq u 1) (.sl .rect t1) (cond (Nat.beq u 4) (.bool t4) (cond (Nat.beq u 5) (.int .i64 t5) (.any)))), fun u => none⟩
def g_zk_e (a0 a1 : List Rect) (Q : Bool → Prop) (i0 : List Rect → List Rect → Bool → Int → Prop) : Prop := cond ((a0.length : Int) != (a1.length : Int)) (Q false) (i0 a0 a1 false 0)
def g_zk_s0 (rec : List Rect → List Rect → Bool → Int → Prop) (x0 : List Rect → List Rect → Bool → Int → Prop) (x1 : List Rect → List Rect → Bool → Int → Prop) (t0 t1 : List Rect) (t4 : Bool) (t5 : Int) : Prop := cond (decide (t5 < (t0.length : Int))) ((let e0 := (t0.getD t5.toNat default); ((0 ≤ t5 ∧ t5 < t0.length) ∧ (let e1 := (t1.getD t5.toNat default); ((0 ≤ t5 ∧ t5 < t1.length) ∧ cond (!((e0.X == e1.X) && ((e0.Y == e1.Y) && ((e0.W == e1.W) && ((e0.H == e1.H) && true))))) (x0 t0 t1 false t5) (rec t0 t1 t4 (w64 (t5 + 1)))))))) (x1 t0 t1 t4 t5)
def g_zk_c0_0 (Q : Bool → Prop) (t0 t1 : List Rect) (t4 : Bool) (t5 : Int) : Prop := Q t4
def g_zk_c0_1 (Q : Bool → Prop) (t0 t1 : List Rect) (t4 : Bool) (t5 : Int) : Prop := Q true
def w_zk_0 (F : Nat) (x0 : List Rect → List Rect → Bool → Int → Prop) (x1 : List Rect → List Rect → Bool → Int → Prop) : Nat → List Rect → List Rect → Bool → Int → Prop
 | 0, _, _, _, _ => False
 | n + 1, t0, t1, t4, t5 => g_zk_s0 (w_zk_0 F x0 x1 n) x0 x1 t0 t1 t4 t5
def n_zk_0 (F : Nat) (Q : Bool → Prop) (t0 t1 : List Rect) (t4 : Bool) (t5 : Int) : Prop := w_zk_0 F (fun t0 t1 t4 t5 => g_zk_c0_0 Q t0 t1 t4 t5) (fun t0 t1 t4 t5 => g_zk_c0_1 Q t0 t1 t4 t5) F t0 t1 t4 t5
def w_zk (F : Nat) (a0 a1 : List Rect) (Q : Bool → Prop) : Prop := g_zk_e a0 a1 Q (n_zk_0 F Q)
open Classical in
def eqB {α : Type} (a b : α) : Bool := decide (a = b)
open Classical in
theorem eqB_iff {α : Type} {a b : α} : eqB a b = true ↔ a = b := by unfold eqB; rw [decide_eq_true_eq]
theorem eqB_self {α : Type} (a : α) : eqB a a = true := eqB_iff.2 rfl
def pre_zk (a b : List Rect) : Prop := a.length ≤ 1000000
def sp_zk (a b : List Rect) : Bool := eqB a b
theorem eqB_rect (r s : Rect) : ((r.X == s.X) && ((r.Y == s.Y) && ((r.W == s.W) && ((r.H == s.H) && true)))) = eqB r s := by
 rw [Bool.eq_iff_iff, eqB_iff]
 obtain ⟨a, b, c, d⟩ := r
 obtain ⟨a', b', c', d'⟩ := s
 simp only [Bool.and_eq_true, beq_iff_eq, and_true, Rect.mk.injEq]
theorem eq_loop {α : Type} [Inhabited α] (a b : List α) (hab : a.length = b.length) (hl : a.length ≤ 1000000) (W : Nat → Int → Prop) (X Y : Int → Prop)
  (hs : ∀ n i, i < a.length → (W (n + 1) (i : Nat) ↔ cond (!(eqB (a.getD i default) (b.getD i default))) (X (i : Nat)) (W n ((i + 1 : Nat) : Int)))) (he : ∀ n, W (n + 1) (a.length : Nat) ↔ Y (a.length : Nat))
  (hX : eqB a b = false → ∀ j, X j) (hY : eqB a b = true → Y (a.length : Nat)) : ∀ (n i : Nat), i ≤ a.length → a.length < n + i → a.take i = b.take i → W n (i : Nat) := by
 intro n
 induction n with
 | zero => intro i h1 h2; omega
 | succ n ih =>
  intro i h1 h2 h3
  by_cases h : i < a.length
  ·rw [hs n i h]
   cases q : eqB (a.getD i default) (b.getD i default) with
   | false =>
    refine hX ?_ _
    cases z : eqB a b with
    | false => rfl
    | true =>
     rw [eqB_iff.1 z, eqB_self] at q
     cases q
   | true =>
    refine ih (i + 1) (by omega) (by omega) ?_
    rw [List.take_add_one, List.take_add_one, h3]
    have e := eqB_iff.1 q
    rw [List.getD_eq_getElem?_getD, List.getD_eq_getElem?_getD, List.getElem?_eq_getElem h, List.getElem?_eq_getElem (show i < b.length by omega)] at e
    rw [List.getElem?_eq_getElem h, List.getElem?_eq_getElem (show i < b.length by omega)]
    simp only [Option.getD_some] at e
    rw [e]
  ·have e : i = a.length := by omega
   subst e
   rw [he n]
   refine hY (eqB_iff.2 ?_)
   rw [List.take_length, hab, List.take_length] at h3
   exact h3
theorem eqB_len {α : Type} {a b : List α} (h : a.length ≠ b.length) : eqB a b = false := by
 cases z : eqB a b with
 | false => rfl
 | true => exact absurd (congrArg List.length (eqB_iff.1 z)) h
theorem ok_zk (a0 a1 : List Rect) (h : pre_zk a0 a1) : ∃ F, ∀ Q : Bool → Prop, Q (sp_zk a0 a1) → w_zk F a0 a1 Q := by
 have hl : a0.length ≤ 1000000 := h
 refine ⟨a0.length + 1, fun Q hQ => ?_⟩
 unfold w_zk g_zk_e
 unfold sp_zk at hQ
 by_cases hab : a0.length = a1.length
 ·rw [show ((a0.length : Int) != (a1.length : Int)) = false by rw [bne_eq_false_iff_eq]; omega, cond_false]
  refine eq_loop a0 a1 hab hl (fun n i => w_zk_0 (a0.length + 1) (fun t0 t1 t4 t5 => g_zk_c0_0 Q t0 t1 t4 t5) (fun t0 t1 t4 t5 => g_zk_c0_1 Q t0 t1 t4 t5) n a0 a1 false i) (fun j => Q false) (fun j => Q true) (fun n i hi => ?_) (fun n => ?_) (fun q j => by rw [q] at hQ; exact hQ) (fun q => by rw [q] at hQ; exact hQ) (a0.length + 1) 0 (by omega) (by omega) rfl
  ·show g_zk_s0 _ _ _ _ _ _ _ ↔ _
   unfold g_zk_s0
   rw [dec_t (show (i : Int) < (a0.length : Int) by omega), cond_true]
   simp only [Int.toNat_natCast, eqB_rect]
   rw [w64_succ hi (by omega)]
   exact ⟨fun z => z.2.2, fun z => ⟨⟨by omega, by omega⟩, ⟨by omega, by omega⟩, z⟩⟩
  ·show g_zk_s0 _ _ _ _ _ _ _ ↔ _
   unfold g_zk_s0
   rw [dec_f (by omega), cond_false]
   exact Iff.rfl
 ·rw [show ((a0.length : Int) != (a1.length : Int)) = true by rw [bne_iff_ne]; omega, cond_true]
  rw [eqB_len hab] at hQ
  exact hQ
def M_zo : Nat → Nat → Nat → Canon UU := fun o b r => cond (Nat.beq b 0) ⟨[0, 1, 4, 5], [], [], [], []⟩ (⟨[], [], [], [], []⟩)
def st_zo_0 (t0 t1 : List (List Rect)) (t4 : Bool) (t5 : Int) : ASt UU := ⟨fun u => cond (Nat.beq u 0) (.sl .rects t0) (cond (Nat.beq u 1) (.sl .rects t1) (cond (Nat.beq u 4) (.bool t4) (cond (Nat.beq u 5) (.int .i64 t5) (.any)))), fun u => none⟩
def g_zo_e (a0 a1 : List (List Rect)) (Q : Bool → Prop) (i0 : List (List Rect) → List (List Rect) → Bool → Int → Prop) : Prop := cond ((a0.length : Int) != (a1.length : Int)) (Q false) (i0 a0 a1 false 0)
def g_zo_s0 (rec : List (List Rect) → List (List Rect) → Bool → Int → Prop) (x0 : List (List Rect) → List (List Rect) → Bool → Int → Prop) (x1 : List (List Rect) → List (List Rect) → Bool → Int → Prop) (t0 t1 : List (List Rect)) (t4 : Bool) (t5 : Int) : Prop := cond (decide (t5 < (t0.length : Int))) ((let e0 := (t0.getD t5.toNat default); ((0 ≤ t5 ∧ t5 < t0.length) ∧ (let e1 := (t1.getD t5.toNat default); ((0 ≤ t5 ∧ t5 < t1.length) ∧ ((pre_zk e0 e1) ∧ cond (!(sp_zk e0 e1)) (x0 t0 t1 false t5) (rec t0 t1 t4 (w64 (t5 + 1))))))))) (x1 t0 t1 t4 t5)
def g_zo_c0_0 (Q : Bool → Prop) (t0 t1 : List (List Rect)) (t4 : Bool) (t5 : Int) : Prop := Q t4
def g_zo_c0_1 (Q : Bool → Prop) (t0 t1 : List (List Rect)) (t4 : Bool) (t5 : Int) : Prop := Q true
def w_zo_0 (F : Nat) (x0 : List (List Rect) → List (List Rect) → Bool → Int → Prop) (x1 : List (List Rect) → List (List Rect) → Bool → Int → Prop) : Nat → List (List Rect) → List (List Rect) → Bool → Int → Prop
 | 0, _, _, _, _ => False
 | n + 1, t0, t1, t4, t5 => g_zo_s0 (w_zo_0 F x0 x1 n) x0 x1 t0 t1 t4 t5
def n_zo_0 (F : Nat) (Q : Bool → Prop) (t0 t1 : List (List Rect)) (t4 : Bool) (t5 : Int) : Prop := w_zo_0 F (fun t0 t1 t4 t5 => g_zo_c0_0 Q t0 t1 t4 t5) (fun t0 t1 t4 t5 => g_zo_c0_1 Q t0 t1 t4 t5) F t0 t1 t4 t5
def w_zo (F : Nat) (a0 a1 : List (List Rect)) (Q : Bool → Prop) : Prop := g_zo_e a0 a1 Q (n_zo_0 F Q)
def pre_zo (a b : List (List Rect)) : Prop := a.length ≤ 1000000 ∧ ∀ l ∈ a, l.length ≤ 1000000
def sp_zo (a b : List (List Rect)) : Bool := eqB a b
theorem ok_zo (a0 a1 : List (List Rect)) (h : pre_zo a0 a1) : ∃ F, ∀ Q : Bool → Prop, Q (sp_zo a0 a1) → w_zo F a0 a1 Q := by
 obtain ⟨hl, hm⟩ := h
 refine ⟨a0.length + 1, fun Q hQ => ?_⟩
 unfold w_zo g_zo_e
 unfold sp_zo at hQ
 by_cases hab : a0.length = a1.length
 ·rw [show ((a0.length : Int) != (a1.length : Int)) = false by rw [bne_eq_false_iff_eq]; omega, cond_false]
  refine eq_loop a0 a1 hab hl (fun n i => w_zo_0 (a0.length + 1) (fun t0 t1 t4 t5 => g_zo_c0_0 Q t0 t1 t4 t5) (fun t0 t1 t4 t5 => g_zo_c0_1 Q t0 t1 t4 t5) n a0 a1 false i) (fun j => Q false) (fun j => Q true) (fun n i hi => ?_) (fun n => ?_) (fun q j => by rw [q] at hQ; exact hQ) (fun q => by rw [q] at hQ; exact hQ) (a0.length + 1) 0 (by omega) (by omega) rfl
  ·show g_zo_s0 _ _ _ _ _ _ _ ↔ _
   unfold g_zo_s0
   rw [dec_t (show (i : Int) < (a0.length : Int) by omega), cond_true]
   simp only [Int.toNat_natCast]
   rw [w64_succ hi (by omega)]
   have hmm : (a0.getD i default).length ≤ 1000000 := hm _ (by
    rw [List.getD_eq_getElem?_getD, List.getElem?_eq_getElem hi, Option.getD_some]
    exact List.getElem_mem _)
   exact ⟨fun z => z.2.2.2, fun z => ⟨⟨by omega, by omega⟩, ⟨by omega, by omega⟩, hmm, z⟩⟩
  ·show g_zo_s0 _ _ _ _ _ _ _ ↔ _
   unfold g_zo_s0
   rw [dec_f (by omega), cond_false]
   exact Iff.rfl
 ·rw [show ((a0.length : Int) != (a1.length : Int)) = true by rw [bne_iff_ne]; omega, cond_true]
  rw [eqB_len hab] at hQ
  exact hQ
def M_za : Nat → Nat → Nat → Canon UU := fun o b r => ⟨[], [], [], [], []⟩
def g_za_e (qe qf : ByteArray) (qg qh qa qb : Int) (qc qd : List Rect) (a1 : List Seg) (Q : Bool → Prop) : Prop := (let r0 := (sp_zh qe qf qg qh qa qb qc qd a1); ((pre_zh qe qf qg qh qa qb qc qd a1) ∧ (let r1 := (sp_zs qe qf qg qh qa qb qc qd a1); ((pre_zs qe qf qg qh qa qb qc qd a1) ∧ (((r0.2 == r1.2) = true → pre_zo r0.1 r1.1) ∧ Q (((r0.2 == r1.2) && (sp_zo r0.1 r1.1)) && sp_zah))))))
def w_za (F : Nat) (qe qf : ByteArray) (qg qh qa qb : Int) (qc qd : List Rect) (a1 : List Seg) (Q : Bool → Prop) : Prop := g_za_e qe qf qg qh qa qb qc qd a1 Q
theorem pre_ref06_sheet (nm mt : ByteArray) (g gr w h : Int) (cl us : List Rect) : pre_zb nm mt g gr w h cl us := by
 unfold pre_zb
 cases (sp_zai nm mt g gr != 0)
 ·simp only [cond_false]
  cases ((((decide (w < 1)) || (decide (1048576 < w))) || (decide (h < 1))) || (decide (1048576 < h)))
  ·simp only [cond_false]
   by_cases hl : 4 < (cl.length : Int) ∨ 48 < (us.length : Int)
   ·rw [show ((decide (4 < (cl.length : Int))) || (decide (48 < (us.length : Int)))) = true by simpa using hl]
    trivial
   ·have h1 : cl.length ≤ 1000000 := by omega
    have h2 : us.length ≤ 1000000 := by omega
    rw [show ((decide (4 < (cl.length : Int))) || (decide (48 < (us.length : Int)))) = false by simpa using hl]
    refine ⟨h1, fun _ => h2, ?_⟩
    cases ((!(sp_zz cl)) || (!(sp_zz us)))
    ·exact ⟨h1, fun _ => h2⟩
    ·trivial
  ·trivial
 ·trivial
theorem separate_same (nm mt : ByteArray) (g gr w h : Int) (cl us : List Rect) (l : List Seg) : sp_zs nm mt g gr w h cl us l = sp_zh nm mt g gr w h cl us l := by
 unfold sp_zs sp_zh
 rw [sheet_same]
theorem parts_len (w h : Int) (ls : List Seg) : (partsG w h ls).length ≤ (cellsOf ((gxs w ls).length - 1) ((gys h ls).length - 1)).length ∧ ∀ l ∈ partsG w h ls, l.length ≤ (cellsOf ((gxs w ls).length - 1) ((gys h ls).length - 1)).length := by
 refine ⟨?_, fun l hl => ?_⟩
 ·have := sepRun_len (nbG (gxs w ls) (gys h ls) ls) (rectG (gxs w ls) (gys h ls)) (cellsOf ((gxs w ls).length - 1) ((gys h ls).length - 1)) (fun _ => none, [])
  simpa [partsG, sepA] using this
 ·obtain ⟨L, hi⟩ := sepA_inv (nb := nbG (gxs w ls) (gys h ls) ls) nbs_sym (rectG (gxs w ls) (gys h ls)) (cellsOf ((gxs w ls).length - 1) ((gys h ls).length - 1))
  have e := hi.perm.length_eq
  rw [List.length_map] at e
  rw [← e]
  exact (List.sublist_flatten_of_mem hl).length_le
theorem separate_len (nm mt : ByteArray) (g gr w h : Int) (cl us : List Rect) (ls : List Seg) : (sp_zh nm mt g gr w h cl us ls).1.length ≤ 10000 ∧ ∀ l ∈ (sp_zh nm mt g gr w h cl us ls).1, l.length ≤ 10000 := by
 unfold sp_zh
 cases (sp_zc nm mt g gr w h cl us != 0)
 ·simp only [cond_false]
  by_cases h2 : 200 < (ls.length : Int)
  ·rw [dec_t h2]
   exact ⟨by simp, by simp⟩
  rw [dec_f h2]
  cases (!(ls.all (linB nm mt g gr w h cl us)))
  ·simp only [cond_false]
   by_cases h3 : 6000 < (((gxs w ls).length : Int) - 1) * (((gys h ls).length : Int) - 1)
   ·rw [dec_t h3]
    exact ⟨by simp, by simp⟩
   rw [dec_f h3]
   simp only [cond_false]
   have px := gxs_pos w ls
   have py := gys_pos h ls
   have e1 : (((gxs w ls).length : Int) - 1) = (((gxs w ls).length - 1 : Nat) : Int) := by omega
   have e2 : (((gys h ls).length : Int) - 1) = (((gys h ls).length - 1 : Nat) : Int) := by omega
   rw [e1, e2] at h3
   have hc : (cellsOf ((gxs w ls).length - 1) ((gys h ls).length - 1)).length ≤ 6000 := by
    rw [cellsOf_len, Nat.mul_comm]
    have : ((((gxs w ls).length - 1) * ((gys h ls).length - 1) : Nat) : Int) ≤ 6000 := by
     rw [Int.natCast_mul]
     exact Int.not_lt.1 h3
    omega
   obtain ⟨q1, q2⟩ := parts_len w h ls
   exact ⟨by omega, fun l hl => by have := q2 l hl; omega⟩
  ·exact ⟨by simp, by simp⟩
 ·exact ⟨by simp, by simp⟩
theorem law_separates (F : Nat) (nm mt : ByteArray) (g gr w h : Int) (cl us : List Rect) (l : List Seg) : w_za F nm mt g gr w h cl us l fun r => r = true := by
 unfold w_za g_za_e
 rw [separate_same]
 obtain ⟨h1, h2⟩ := separate_len nm mt g gr w h cl us l
 refine ⟨trivial, pre_ref06_sheet .., fun _ => ⟨by omega, fun x hx => by have := h2 x hx; omega⟩, ?_⟩
 unfold sp_zo sp_zah
 rw [eqB_self]
 simp
set_option maxRecDepth 100000
theorem entry_zad (F : Nat) (Post : AVal UU → Prop) (a0 a1 : Int) : exec C_lib Tryz.f132.ntmps M_zad F 0 (bo Tryz.f132) (initSt [.int .i64 a0, .int .i64 a1]) (AEnds C_lib false Tryz.f132 Post) = g_zad_e a0 a1 (fun r0 => Post (.bool r0)) := by kernel_rfl
theorem exec_zad (F : Nat) (Post : AVal UU → Prop) (a0 a1 : Int) : exec C_lib Tryz.f132.ntmps M_zad F 0 (bo Tryz.f132) (initSt [.int .i64 a0, .int .i64 a1]) (AEnds C_lib false Tryz.f132 Post) = w_zad F a0 a1 (fun r0 => Post (.bool r0)) := by
 rw [entry_zad]
 rfl
def m_zad : Model UU
 | [.int .i64 a0, .int .i64 a1] => some ([], .bool (sp_zad a0 a1))
 | _ => none
def C_zad : Cfg UU := C_lib.add 132 m_zad
theorem s_zad : SumOK C_zad := by
 refine s_lib.addD mixed (fn := Tryz.f132) (c := bo Tryz.f132) Tryz.func132 (by kernel_rfl) (by kernel_rfl) ?_
 intro xs cs r h hc
 unfold m_zad at h
 split at h
 ·rename_i a0 a1
  cases h
  obtain ⟨F, hF⟩ := ok_zad a0 a1
  refine ⟨by kernel_rfl, M_zad, F, false, ⟨?_⟩⟩
  rw [exec_zad]
  refine hF _ ?_
  rfl
 ·cases h
theorem entry_zam (F : Nat) (Post : AVal UU → Prop) (a0 : Int) : exec C_zad Tryz.f143.ntmps M_zam F 0 (bo Tryz.f143) (initSt [.int .i64 a0]) (AEnds C_zad false Tryz.f143 Post) = g_zam_e a0 (fun r0 => Post (.bool r0)) := by kernel_rfl
theorem exec_zam (F : Nat) (Post : AVal UU → Prop) (a0 : Int) : exec C_zad Tryz.f143.ntmps M_zam F 0 (bo Tryz.f143) (initSt [.int .i64 a0]) (AEnds C_zad false Tryz.f143 Post) = w_zam F a0 (fun r0 => Post (.bool r0)) := by
 rw [entry_zam]
 rfl
def m_zam : Model UU
 | [.int .i64 a0] => some ([], .bool (sp_zam a0))
 | _ => none
def C_zam : Cfg UU := C_zad.add 143 m_zam
theorem s_zam : SumOK C_zam := by
 refine s_zad.addD mixed (fn := Tryz.f143) (c := bo Tryz.f143) Tryz.func143 (by kernel_rfl) (by kernel_rfl) ?_
 intro xs cs r h hc
 unfold m_zam at h
 split at h
 ·rename_i a0
  cases h
  obtain ⟨F, hF⟩ := ok_zam a0
  refine ⟨by kernel_rfl, M_zam, F, false, ⟨?_⟩⟩
  rw [exec_zam]
  refine hF _ ?_
  rfl
 ·cases h
theorem entry_zap (F : Nat) (Post : AVal UU → Prop) (a0 a1 a2 : Int) : exec C_zam Tryz.f78.ntmps M_zap F 0 (bo Tryz.f78) (initSt [.int .i64 a0, .int .i64 a1, .int .i64 a2]) (AEnds C_zam false Tryz.f78 Post) = g_zap_e a0 a1 a2 (fun r0 => Post (.bool r0)) := by kernel_rfl
theorem exec_zap (F : Nat) (Post : AVal UU → Prop) (a0 a1 a2 : Int) : exec C_zam Tryz.f78.ntmps M_zap F 0 (bo Tryz.f78) (initSt [.int .i64 a0, .int .i64 a1, .int .i64 a2]) (AEnds C_zam false Tryz.f78 Post) = w_zap F a0 a1 a2 (fun r0 => Post (.bool r0)) := by
 rw [entry_zap]
 rfl
def m_zap : Model UU
 | [.int .i64 a0, .int .i64 a1, .int .i64 a2] => some ([], .bool (sp_zap a0 a1 a2))
 | _ => none
def C_zap : Cfg UU := C_zam.add 78 m_zap
theorem s_zap : SumOK C_zap := by
 refine s_zam.addD mixed (fn := Tryz.f78) (c := bo Tryz.f78) Tryz.func78 (by kernel_rfl) (by kernel_rfl) ?_
 intro xs cs r h hc
 unfold m_zap at h
 split at h
 ·rename_i a0 a1 a2
  cases h
  obtain ⟨F, hF⟩ := ok_zap a0 a1 a2
  refine ⟨by kernel_rfl, M_zap, F, false, ⟨?_⟩⟩
  rw [exec_zap]
  refine hF _ ?_
  rfl
 ·cases h
theorem entry_zl (F : Nat) (Post : AVal UU → Prop) (qe qf : ByteArray) (qg qh qa qb : Int) (qc qd : List Rect) (a1 a2 : Int) : exec C_zap Tryz.f81.ntmps M_zl F 0 (bo Tryz.f81) (initSt [.agg [.str qe, .str qf, .int .i64 qg, .int .i64 qh, .int .i64 qa, .int .i64 qb, .sl .rect qc, .sl .rect qd], .int .i64 a1, .int .i64 a2]) (AEnds C_zap false Tryz.f81 Post) = g_zl_e qe qf qg qh qa qb qc qd a1 a2 (fun r0 => Post (.bool r0)) := by kernel_rfl
theorem exec_zl (F : Nat) (Post : AVal UU → Prop) (qe qf : ByteArray) (qg qh qa qb : Int) (qc qd : List Rect) (a1 a2 : Int) : exec C_zap Tryz.f81.ntmps M_zl F 0 (bo Tryz.f81) (initSt [.agg [.str qe, .str qf, .int .i64 qg, .int .i64 qh, .int .i64 qa, .int .i64 qb, .sl .rect qc, .sl .rect qd], .int .i64 a1, .int .i64 a2]) (AEnds C_zap false Tryz.f81 Post) = w_zl F qe qf qg qh qa qb qc qd a1 a2 (fun r0 => Post (.bool r0)) := by
 rw [entry_zl]
 rfl
def m_zl : Model UU
 | [.agg [.str qe, .str qf, .int .i64 qg, .int .i64 qh, .int .i64 qa, .int .i64 qb, .sl .rect qc, .sl .rect qd], .int .i64 a1, .int .i64 a2] => some ([], .bool (sp_zl qe qf qg qh qa qb qc qd a1 a2))
 | _ => none
def C_zl : Cfg UU := C_zap.add 81 m_zl
theorem s_zl : SumOK C_zl := by
 refine s_zap.addD mixed (fn := Tryz.f81) (c := bo Tryz.f81) Tryz.func81 (by kernel_rfl) (by kernel_rfl) ?_
 intro xs cs r h hc
 unfold m_zl at h
 split at h
 ·rename_i qe qf qg qh qa qb qc qd a1 a2
  cases h
  obtain ⟨F, hF⟩ := ok_zl qe qf qg qh qa qb qc qd a1 a2
  refine ⟨by kernel_rfl, M_zl, F, false, ⟨?_⟩⟩
  rw [exec_zl]
  refine hF _ ?_
  rfl
 ·cases h
theorem entry_zaa (F : Nat) (Post : AVal UU → Prop) (a0 a1 a2 a3 : Int) : exec C_zl Tryz.f82.ntmps M_zaa F 0 (bo Tryz.f82) (initSt [.int .i64 a0, .int .i64 a1, .int .i64 a2, .int .i64 a3]) (AEnds C_zl false Tryz.f82 Post) = g_zaa_e a0 a1 a2 a3 (fun r0_X1 r0_Y1 r0_X2 r0_Y2 => Post (.agg [.int .i64 r0_X1, .int .i64 r0_Y1, .int .i64 r0_X2, .int .i64 r0_Y2])) := by kernel_rfl
theorem exec_zaa (F : Nat) (Post : AVal UU → Prop) (a0 a1 a2 a3 : Int) : exec C_zl Tryz.f82.ntmps M_zaa F 0 (bo Tryz.f82) (initSt [.int .i64 a0, .int .i64 a1, .int .i64 a2, .int .i64 a3]) (AEnds C_zl false Tryz.f82 Post) = w_zaa F a0 a1 a2 a3 (fun r0_X1 r0_Y1 r0_X2 r0_Y2 => Post (.agg [.int .i64 r0_X1, .int .i64 r0_Y1, .int .i64 r0_X2, .int .i64 r0_Y2])) := by
 rw [entry_zaa]
 rfl
def m_zaa : Model UU
 | [.int .i64 a0, .int .i64 a1, .int .i64 a2, .int .i64 a3] => some ([], .agg [.int .i64 ((sp_zaa a0 a1 a2 a3).1), .int .i64 ((sp_zaa a0 a1 a2 a3).2.1), .int .i64 ((sp_zaa a0 a1 a2 a3).2.2.1), .int .i64 ((sp_zaa a0 a1 a2 a3).2.2.2)])
 | _ => none
def C_zaa : Cfg UU := C_zl.add 82 m_zaa
theorem s_zaa : SumOK C_zaa := by
 refine s_zl.addD mixed (fn := Tryz.f82) (c := bo Tryz.f82) Tryz.func82 (by kernel_rfl) (by kernel_rfl) ?_
 intro xs cs r h hc
 unfold m_zaa at h
 split at h
 ·rename_i a0 a1 a2 a3
  cases h
  obtain ⟨F, hF⟩ := ok_zaa a0 a1 a2 a3
  refine ⟨by kernel_rfl, M_zaa, F, false, ⟨?_⟩⟩
  rw [exec_zaa]
  refine hF _ ?_
  rfl
 ·cases h
theorem entry_zm (F : Nat) (Post : AVal UU → Prop) (qn qj qr qm a1_X a1_Y a1_W a1_H : Int) : exec C_zaa Tryz.f85.ntmps M_zm F 0 (bo Tryz.f85) (initSt [.agg [.int .i64 qn, .int .i64 qj, .int .i64 qr, .int .i64 qm], .agg [.int .i64 a1_X, .int .i64 a1_Y, .int .i64 a1_W, .int .i64 a1_H]]) (AEnds C_zaa false Tryz.f85 Post) = g_zm_e qn qj qr qm a1_X a1_Y a1_W a1_H (fun r0 => Post (.bool r0)) := by kernel_rfl
theorem exec_zm (F : Nat) (Post : AVal UU → Prop) (qn qj qr qm a1_X a1_Y a1_W a1_H : Int) : exec C_zaa Tryz.f85.ntmps M_zm F 0 (bo Tryz.f85) (initSt [.agg [.int .i64 qn, .int .i64 qj, .int .i64 qr, .int .i64 qm], .agg [.int .i64 a1_X, .int .i64 a1_Y, .int .i64 a1_W, .int .i64 a1_H]]) (AEnds C_zaa false Tryz.f85 Post) = w_zm F qn qj qr qm a1_X a1_Y a1_W a1_H (fun r0 => Post (.bool r0)) := by
 rw [entry_zm]
 rfl
def m_zm : Model UU
 | [.agg [.int .i64 qn, .int .i64 qj, .int .i64 qr, .int .i64 qm], .agg [.int .i64 a1_X, .int .i64 a1_Y, .int .i64 a1_W, .int .i64 a1_H]] => some ([], .bool (sp_zm qn qj qr qm a1_X a1_Y a1_W a1_H))
 | _ => none
def C_zm : Cfg UU := C_zaa.add 85 m_zm
theorem s_zm : SumOK C_zm := by
 refine s_zaa.addD mixed (fn := Tryz.f85) (c := bo Tryz.f85) Tryz.func85 (by kernel_rfl) (by kernel_rfl) ?_
 intro xs cs r h hc
 unfold m_zm at h
 split at h
 ·rename_i qn qj qr qm a1_X a1_Y a1_W a1_H
  cases h
  obtain ⟨F, hF⟩ := ok_zm qn qj qr qm a1_X a1_Y a1_W a1_H
  refine ⟨by kernel_rfl, M_zm, F, false, ⟨?_⟩⟩
  rw [exec_zm]
  refine hF _ ?_
  rfl
 ·cases h
theorem entry_zan (F : Nat) (Post : AVal UU → Prop) (qn qj qr qm ql qk qq qo : Int) : exec C_zm Tryz.f94.ntmps M_zan F 0 (bo Tryz.f94) (initSt [.agg [.int .i64 qn, .int .i64 qj, .int .i64 qr, .int .i64 qm], .agg [.int .i64 ql, .int .i64 qk, .int .i64 qq, .int .i64 qo]]) (AEnds C_zm false Tryz.f94 Post) = g_zan_e qn qj qr qm ql qk qq qo (fun r0 => Post (.bool r0)) := by kernel_rfl
theorem exec_zan (F : Nat) (Post : AVal UU → Prop) (qn qj qr qm ql qk qq qo : Int) : exec C_zm Tryz.f94.ntmps M_zan F 0 (bo Tryz.f94) (initSt [.agg [.int .i64 qn, .int .i64 qj, .int .i64 qr, .int .i64 qm], .agg [.int .i64 ql, .int .i64 qk, .int .i64 qq, .int .i64 qo]]) (AEnds C_zm false Tryz.f94 Post) = w_zan F qn qj qr qm ql qk qq qo (fun r0 => Post (.bool r0)) := by
 rw [entry_zan]
 rfl
def m_zan : Model UU
 | [.agg [.int .i64 qn, .int .i64 qj, .int .i64 qr, .int .i64 qm], .agg [.int .i64 ql, .int .i64 qk, .int .i64 qq, .int .i64 qo]] => some ([], .bool (sp_zan qn qj qr qm ql qk qq qo))
 | _ => none
def C_zan : Cfg UU := C_zm.add 94 m_zan
theorem s_zan : SumOK C_zan := by
 refine s_zm.addD mixed (fn := Tryz.f94) (c := bo Tryz.f94) Tryz.func94 (by kernel_rfl) (by kernel_rfl) ?_
 intro xs cs r h hc
 unfold m_zan at h
 split at h
 ·rename_i qn qj qr qm ql qk qq qo
  cases h
  obtain ⟨F, hF⟩ := ok_zan qn qj qr qm ql qk qq qo
  refine ⟨by kernel_rfl, M_zan, F, false, ⟨?_⟩⟩
  rw [exec_zan]
  refine hF _ ?_
  rfl
 ·cases h
theorem entry_zag (F : Nat) (Post : AVal UU → Prop) (qn qj qr qm ql qk qq qo : Int) : exec C_zan Tryz.f95.ntmps M_zag F 0 (bo Tryz.f95) (initSt [.agg [.int .i64 qn, .int .i64 qj, .int .i64 qr, .int .i64 qm], .agg [.int .i64 ql, .int .i64 qk, .int .i64 qq, .int .i64 qo]]) (AEnds C_zan false Tryz.f95 Post) = g_zag_e qn qj qr qm ql qk qq qo (fun r0 => Post (.bool r0)) := by kernel_rfl
theorem exec_zag (F : Nat) (Post : AVal UU → Prop) (qn qj qr qm ql qk qq qo : Int) : exec C_zan Tryz.f95.ntmps M_zag F 0 (bo Tryz.f95) (initSt [.agg [.int .i64 qn, .int .i64 qj, .int .i64 qr, .int .i64 qm], .agg [.int .i64 ql, .int .i64 qk, .int .i64 qq, .int .i64 qo]]) (AEnds C_zan false Tryz.f95 Post) = w_zag F qn qj qr qm ql qk qq qo (fun r0 => Post (.bool r0)) := by
 rw [entry_zag]
 rfl
def m_zag : Model UU
 | [.agg [.int .i64 qn, .int .i64 qj, .int .i64 qr, .int .i64 qm], .agg [.int .i64 ql, .int .i64 qk, .int .i64 qq, .int .i64 qo]] => some ([], .bool (sp_zag qn qj qr qm ql qk qq qo))
 | _ => none
def C_zag : Cfg UU := C_zan.add 95 m_zag
theorem s_zag : SumOK C_zag := by
 refine s_zan.addD mixed (fn := Tryz.f95) (c := bo Tryz.f95) Tryz.func95 (by kernel_rfl) (by kernel_rfl) ?_
 intro xs cs r h hc
 unfold m_zag at h
 split at h
 ·rename_i qn qj qr qm ql qk qq qo
  cases h
  obtain ⟨F, hF⟩ := ok_zag qn qj qr qm ql qk qq qo
  refine ⟨by kernel_rfl, M_zag, F, false, ⟨?_⟩⟩
  rw [exec_zag]
  refine hF _ ?_
  rfl
 ·cases h
theorem entry_zw (F : Nat) (Post : AVal UU → Prop) (qi a0_X a0_Y a0_W a0_H a0_N a1_X a1_Y : Int) : exec C_zag Tryz.f56.ntmps M_zw F 0 (bo Tryz.f56) (initSt [.agg [.int .i64 qi, .int .i64 a0_X, .int .i64 a0_Y, .int .i64 a0_W, .int .i64 a0_H, .int .i64 a0_N], .agg [.int .i64 a1_X, .int .i64 a1_Y]]) (AEnds C_zag false Tryz.f56 Post) = g_zw_e qi a0_X a0_Y a0_W a0_H a0_N a1_X a1_Y (fun r0_X r0_Y => Post (.agg [.int .i64 r0_X, .int .i64 r0_Y])) := by kernel_rfl
theorem exec_zw (F : Nat) (Post : AVal UU → Prop) (qi a0_X a0_Y a0_W a0_H a0_N a1_X a1_Y : Int) : exec C_zag Tryz.f56.ntmps M_zw F 0 (bo Tryz.f56) (initSt [.agg [.int .i64 qi, .int .i64 a0_X, .int .i64 a0_Y, .int .i64 a0_W, .int .i64 a0_H, .int .i64 a0_N], .agg [.int .i64 a1_X, .int .i64 a1_Y]]) (AEnds C_zag false Tryz.f56 Post) = w_zw F qi a0_X a0_Y a0_W a0_H a0_N a1_X a1_Y (fun r0_X r0_Y => Post (.agg [.int .i64 r0_X, .int .i64 r0_Y])) := by
 rw [entry_zw]
 rfl
def m_zw : Model UU
 | [.agg [.int .i64 qi, .int .i64 a0_X, .int .i64 a0_Y, .int .i64 a0_W, .int .i64 a0_H, .int .i64 a0_N], .agg [.int .i64 a1_X, .int .i64 a1_Y]] => some ([], .agg [.int .i64 ((sp_zw qi a0_X a0_Y a0_W a0_H a0_N a1_X a1_Y).1), .int .i64 ((sp_zw qi a0_X a0_Y a0_W a0_H a0_N a1_X a1_Y).2)])
 | _ => none
def C_zw : Cfg UU := C_zag.add 56 m_zw
theorem s_zw : SumOK C_zw := by
 refine s_zag.addD mixed (fn := Tryz.f56) (c := bo Tryz.f56) Tryz.func56 (by kernel_rfl) (by kernel_rfl) ?_
 intro xs cs r h hc
 unfold m_zw at h
 split at h
 ·rename_i qi a0_X a0_Y a0_W a0_H a0_N a1_X a1_Y
  cases h
  obtain ⟨F, hF⟩ := ok_zw qi a0_X a0_Y a0_W a0_H a0_N a1_X a1_Y
  refine ⟨by kernel_rfl, M_zw, F, false, ⟨?_⟩⟩
  rw [exec_zw]
  refine hF _ ?_
  rfl
 ·cases h
theorem entry_zx (F : Nat) (Post : AVal UU → Prop) (qi a0_X a0_Y a0_W a0_H a0_N : Int) : exec C_zw Tryz.f52.ntmps M_zx F 0 (bo Tryz.f52) (initSt [.agg [.int .i64 qi, .int .i64 a0_X, .int .i64 a0_Y, .int .i64 a0_W, .int .i64 a0_H, .int .i64 a0_N]]) (AEnds C_zw false Tryz.f52 Post) = g_zx_e qi a0_X a0_Y a0_W a0_H a0_N (fun r0 => Post (.bool r0)) := by kernel_rfl
theorem exec_zx (F : Nat) (Post : AVal UU → Prop) (qi a0_X a0_Y a0_W a0_H a0_N : Int) : exec C_zw Tryz.f52.ntmps M_zx F 0 (bo Tryz.f52) (initSt [.agg [.int .i64 qi, .int .i64 a0_X, .int .i64 a0_Y, .int .i64 a0_W, .int .i64 a0_H, .int .i64 a0_N]]) (AEnds C_zw false Tryz.f52 Post) = w_zx F qi a0_X a0_Y a0_W a0_H a0_N (fun r0 => Post (.bool r0)) := by
 rw [entry_zx]
 rfl
def m_zx : Model UU
 | [.agg [.int .i64 qi, .int .i64 a0_X, .int .i64 a0_Y, .int .i64 a0_W, .int .i64 a0_H, .int .i64 a0_N]] => some ([], .bool (sp_zx qi a0_X a0_Y a0_W a0_H a0_N))
 | _ => none
def C_zx : Cfg UU := C_zw.add 52 m_zx
theorem s_zx : SumOK C_zx := by
 refine s_zw.addD mixed (fn := Tryz.f52) (c := bo Tryz.f52) Tryz.func52 (by kernel_rfl) (by kernel_rfl) ?_
 intro xs cs r h hc
 unfold m_zx at h
 split at h
 ·rename_i qi a0_X a0_Y a0_W a0_H a0_N
  cases h
  obtain ⟨F, hF⟩ := ok_zx qi a0_X a0_Y a0_W a0_H a0_N
  refine ⟨by kernel_rfl, M_zx, F, false, ⟨?_⟩⟩
  rw [exec_zx]
  refine hF _ ?_
  rfl
 ·cases h
theorem entry_zg (F : Nat) (Post : AVal UU → Prop) (a0 a1 : Int) : exec C_zx Tryz.f131.ntmps M_zg F 0 (bo Tryz.f131) (initSt [.int .i64 a0, .int .i64 a1]) (AEnds C_zx false Tryz.f131 Post) = g_zg_e a0 a1 (fun r0 => Post (.bool r0)) := by kernel_rfl
theorem exec_zg (F : Nat) (Post : AVal UU → Prop) (a0 a1 : Int) : exec C_zx Tryz.f131.ntmps M_zg F 0 (bo Tryz.f131) (initSt [.int .i64 a0, .int .i64 a1]) (AEnds C_zx false Tryz.f131 Post) = w_zg F a0 a1 (fun r0 => Post (.bool r0)) := by
 rw [entry_zg]
 rfl
def m_zg : Model UU
 | [.int .i64 a0, .int .i64 a1] => some ([], .bool (sp_zg a0 a1))
 | _ => none
def C_zg : Cfg UU := C_zx.add 131 m_zg
theorem s_zg : SumOK C_zg := by
 refine s_zx.addD mixed (fn := Tryz.f131) (c := bo Tryz.f131) Tryz.func131 (by kernel_rfl) (by kernel_rfl) ?_
 intro xs cs r h hc
 unfold m_zg at h
 split at h
 ·rename_i a0 a1
  cases h
  obtain ⟨F, hF⟩ := ok_zg a0 a1
  refine ⟨by kernel_rfl, M_zg, F, false, ⟨?_⟩⟩
  rw [exec_zg]
  refine hF _ ?_
  rfl
 ·cases h
theorem entry_zp (F : Nat) (Post : AVal UU → Prop) (a0_X a0_Y a0_W a0_H : Int) : exec C_zg Tryz.f75.ntmps M_zp F 0 (bo Tryz.f75) (initSt [.agg [.int .i64 a0_X, .int .i64 a0_Y, .int .i64 a0_W, .int .i64 a0_H]]) (AEnds C_zg false Tryz.f75 Post) = g_zp_e a0_X a0_Y a0_W a0_H (fun r0 => Post (.bool r0)) := by kernel_rfl
theorem exec_zp (F : Nat) (Post : AVal UU → Prop) (a0_X a0_Y a0_W a0_H : Int) : exec C_zg Tryz.f75.ntmps M_zp F 0 (bo Tryz.f75) (initSt [.agg [.int .i64 a0_X, .int .i64 a0_Y, .int .i64 a0_W, .int .i64 a0_H]]) (AEnds C_zg false Tryz.f75 Post) = w_zp F a0_X a0_Y a0_W a0_H (fun r0 => Post (.bool r0)) := by
 rw [entry_zp]
 rfl
def m_zp : Model UU
 | [.agg [.int .i64 a0_X, .int .i64 a0_Y, .int .i64 a0_W, .int .i64 a0_H]] => some ([], .bool (sp_zp a0_X a0_Y a0_W a0_H))
 | _ => none
def C_zp : Cfg UU := C_zg.add 75 m_zp
theorem s_zp : SumOK C_zp := by
 refine s_zg.addD mixed (fn := Tryz.f75) (c := bo Tryz.f75) Tryz.func75 (by kernel_rfl) (by kernel_rfl) ?_
 intro xs cs r h hc
 unfold m_zp at h
 split at h
 ·rename_i a0_X a0_Y a0_W a0_H
  cases h
  obtain ⟨F, hF⟩ := ok_zp a0_X a0_Y a0_W a0_H
  refine ⟨by kernel_rfl, M_zp, F, false, ⟨?_⟩⟩
  rw [exec_zp]
  refine hF _ ?_
  rfl
 ·cases h
theorem entry_zaf (F : Nat) (Post : AVal UU → Prop) (a0_X a0_Y a0_W a0_H a1_X a1_Y a1_W a1_H : Int) : exec C_zp Tryz.f46.ntmps M_zaf F 0 (bo Tryz.f46) (initSt [.agg [.int .i64 a0_X, .int .i64 a0_Y, .int .i64 a0_W, .int .i64 a0_H], .agg [.int .i64 a1_X, .int .i64 a1_Y, .int .i64 a1_W, .int .i64 a1_H]]) (AEnds C_zp false Tryz.f46 Post) = g_zaf_e a0_X a0_Y a0_W a0_H a1_X a1_Y a1_W a1_H (fun r0 => Post (.bool r0)) := by kernel_rfl
theorem exec_zaf (F : Nat) (Post : AVal UU → Prop) (a0_X a0_Y a0_W a0_H a1_X a1_Y a1_W a1_H : Int) : exec C_zp Tryz.f46.ntmps M_zaf F 0 (bo Tryz.f46) (initSt [.agg [.int .i64 a0_X, .int .i64 a0_Y, .int .i64 a0_W, .int .i64 a0_H], .agg [.int .i64 a1_X, .int .i64 a1_Y, .int .i64 a1_W, .int .i64 a1_H]]) (AEnds C_zp false Tryz.f46 Post) = w_zaf F a0_X a0_Y a0_W a0_H a1_X a1_Y a1_W a1_H (fun r0 => Post (.bool r0)) := by
 rw [entry_zaf]
 rfl
def m_zaf : Model UU
 | [.agg [.int .i64 a0_X, .int .i64 a0_Y, .int .i64 a0_W, .int .i64 a0_H], .agg [.int .i64 a1_X, .int .i64 a1_Y, .int .i64 a1_W, .int .i64 a1_H]] => some ([], .bool (sp_zaf a0_X a0_Y a0_W a0_H a1_X a1_Y a1_W a1_H))
 | _ => none
def C_zaf : Cfg UU := C_zp.add 46 m_zaf
theorem s_zaf : SumOK C_zaf := by
 refine s_zp.addD mixed (fn := Tryz.f46) (c := bo Tryz.f46) Tryz.func46 (by kernel_rfl) (by kernel_rfl) ?_
 intro xs cs r h hc
 unfold m_zaf at h
 split at h
 ·rename_i a0_X a0_Y a0_W a0_H a1_X a1_Y a1_W a1_H
  cases h
  obtain ⟨F, hF⟩ := ok_zaf a0_X a0_Y a0_W a0_H a1_X a1_Y a1_W a1_H
  refine ⟨by kernel_rfl, M_zaf, F, false, ⟨?_⟩⟩
  rw [exec_zaf]
  refine hF _ ?_
  rfl
 ·cases h
theorem entry_zao (F : Nat) (Post : AVal UU → Prop) (a0 a1 : Int) : exec C_zaf Tryz.f77.ntmps M_zao F 0 (bo Tryz.f77) (initSt [.int .i64 a0, .int .i64 a1]) (AEnds C_zaf false Tryz.f77 Post) = g_zao_e a0 a1 (fun r0 => Post (.bool r0)) := by kernel_rfl
theorem exec_zao (F : Nat) (Post : AVal UU → Prop) (a0 a1 : Int) : exec C_zaf Tryz.f77.ntmps M_zao F 0 (bo Tryz.f77) (initSt [.int .i64 a0, .int .i64 a1]) (AEnds C_zaf false Tryz.f77 Post) = w_zao F a0 a1 (fun r0 => Post (.bool r0)) := by
 rw [entry_zao]
 rfl
def m_zao : Model UU
 | [.int .i64 a0, .int .i64 a1] => some ([], .bool (sp_zao a0 a1))
 | _ => none
def C_zao : Cfg UU := C_zaf.add 77 m_zao
theorem s_zao : SumOK C_zao := by
 refine s_zaf.addD mixed (fn := Tryz.f77) (c := bo Tryz.f77) Tryz.func77 (by kernel_rfl) (by kernel_rfl) ?_
 intro xs cs r h hc
 unfold m_zao at h
 split at h
 ·rename_i a0 a1
  cases h
  obtain ⟨F, hF⟩ := ok_zao a0 a1
  refine ⟨by kernel_rfl, M_zao, F, false, ⟨?_⟩⟩
  rw [exec_zao]
  refine hF _ ?_
  rfl
 ·cases h
theorem entry_zal (F : Nat) (Post : AVal UU → Prop) (qe qf : ByteArray) (qg qh qa qb : Int) (qc qd : List Rect) (a1 : Int) : exec C_zao Tryz.f80.ntmps M_zal F 0 (bo Tryz.f80) (initSt [.agg [.str qe, .str qf, .int .i64 qg, .int .i64 qh, .int .i64 qa, .int .i64 qb, .sl .rect qc, .sl .rect qd], .int .i64 a1]) (AEnds C_zao false Tryz.f80 Post) = g_zal_e qe qf qg qh qa qb qc qd a1 (fun r0_X r0_Y r0_W r0_H r1 => Post (.tup [.agg [.int .i64 r0_X, .int .i64 r0_Y, .int .i64 r0_W, .int .i64 r0_H], .bool r1])) := by kernel_rfl
theorem exec_zal (F : Nat) (Post : AVal UU → Prop) (qe qf : ByteArray) (qg qh qa qb : Int) (qc qd : List Rect) (a1 : Int) : exec C_zao Tryz.f80.ntmps M_zal F 0 (bo Tryz.f80) (initSt [.agg [.str qe, .str qf, .int .i64 qg, .int .i64 qh, .int .i64 qa, .int .i64 qb, .sl .rect qc, .sl .rect qd], .int .i64 a1]) (AEnds C_zao false Tryz.f80 Post) = w_zal F qe qf qg qh qa qb qc qd a1 (fun r0_X r0_Y r0_W r0_H r1 => Post (.tup [.agg [.int .i64 r0_X, .int .i64 r0_Y, .int .i64 r0_W, .int .i64 r0_H], .bool r1])) := by
 rw [entry_zal]
 rfl
def m_zal : Model UU
 | [.agg [.str qe, .str qf, .int .i64 qg, .int .i64 qh, .int .i64 qa, .int .i64 qb, .sl .rect qc, .sl .rect qd], .int .i64 a1] => some ([], .tup [.agg [.int .i64 ((sp_zal qe qf qg qh qa qb qc qd a1).1), .int .i64 ((sp_zal qe qf qg qh qa qb qc qd a1).2.1), .int .i64 ((sp_zal qe qf qg qh qa qb qc qd a1).2.2.1), .int .i64 ((sp_zal qe qf qg qh qa qb qc qd a1).2.2.2.1)], .bool ((sp_zal qe qf qg qh qa qb qc qd a1).2.2.2.2)])
 | _ => none
def C_zal : Cfg UU := C_zao.add 80 m_zal
theorem s_zal : SumOK C_zal := by
 refine s_zao.addD mixed (fn := Tryz.f80) (c := bo Tryz.f80) Tryz.func80 (by kernel_rfl) (by kernel_rfl) ?_
 intro xs cs r h hc
 unfold m_zal at h
 split at h
 ·rename_i qe qf qg qh qa qb qc qd a1
  cases h
  obtain ⟨F, hF⟩ := ok_zal qe qf qg qh qa qb qc qd a1
  refine ⟨by kernel_rfl, M_zal, F, false, ⟨?_⟩⟩
  rw [exec_zal]
  refine hF _ ?_
  rfl
 ·cases h
theorem entry_zae (F : Nat) (Post : AVal UU → Prop) (a0_X a0_Y a0_W a0_H : Int) : exec C_zal Tryz.f93.ntmps M_zae F 0 (bo Tryz.f93) (initSt [.agg [.int .i64 a0_X, .int .i64 a0_Y, .int .i64 a0_W, .int .i64 a0_H]]) (AEnds C_zal false Tryz.f93 Post) = g_zae_e a0_X a0_Y a0_W a0_H (fun r0 => Post (.bool r0)) := by kernel_rfl
theorem exec_zae (F : Nat) (Post : AVal UU → Prop) (a0_X a0_Y a0_W a0_H : Int) : exec C_zal Tryz.f93.ntmps M_zae F 0 (bo Tryz.f93) (initSt [.agg [.int .i64 a0_X, .int .i64 a0_Y, .int .i64 a0_W, .int .i64 a0_H]]) (AEnds C_zal false Tryz.f93 Post) = w_zae F a0_X a0_Y a0_W a0_H (fun r0 => Post (.bool r0)) := by
 rw [entry_zae]
 rfl
def m_zae : Model UU
 | [.agg [.int .i64 a0_X, .int .i64 a0_Y, .int .i64 a0_W, .int .i64 a0_H]] => some ([], .bool (sp_zae a0_X a0_Y a0_W a0_H))
 | _ => none
def C_zae : Cfg UU := C_zal.add 93 m_zae
theorem s_zae : SumOK C_zae := by
 refine s_zal.addD mixed (fn := Tryz.f93) (c := bo Tryz.f93) Tryz.func93 (by kernel_rfl) (by kernel_rfl) ?_
 intro xs cs r h hc
 unfold m_zae at h
 split at h
 ·rename_i a0_X a0_Y a0_W a0_H
  cases h
  obtain ⟨F, hF⟩ := ok_zae a0_X a0_Y a0_W a0_H
  refine ⟨by kernel_rfl, M_zae, F, false, ⟨?_⟩⟩
  rw [exec_zae]
  refine hF _ ?_
  rfl
 ·cases h
theorem entry_zy (F : Nat) (Post : AVal UU → Prop) (a0_X a0_Y a0_W a0_H a1_X a1_Y a1_W a1_H : Int) : exec C_zae Tryz.f35.ntmps M_zy F 0 (bo Tryz.f35) (initSt [.agg [.int .i64 a0_X, .int .i64 a0_Y, .int .i64 a0_W, .int .i64 a0_H], .agg [.int .i64 a1_X, .int .i64 a1_Y, .int .i64 a1_W, .int .i64 a1_H]]) (AEnds C_zae false Tryz.f35 Post) = g_zy_e a0_X a0_Y a0_W a0_H a1_X a1_Y a1_W a1_H (fun r0 => Post (.bool r0)) := by kernel_rfl
theorem exec_zy (F : Nat) (Post : AVal UU → Prop) (a0_X a0_Y a0_W a0_H a1_X a1_Y a1_W a1_H : Int) : exec C_zae Tryz.f35.ntmps M_zy F 0 (bo Tryz.f35) (initSt [.agg [.int .i64 a0_X, .int .i64 a0_Y, .int .i64 a0_W, .int .i64 a0_H], .agg [.int .i64 a1_X, .int .i64 a1_Y, .int .i64 a1_W, .int .i64 a1_H]]) (AEnds C_zae false Tryz.f35 Post) = w_zy F a0_X a0_Y a0_W a0_H a1_X a1_Y a1_W a1_H (fun r0 => Post (.bool r0)) := by
 rw [entry_zy]
 rfl
def m_zy : Model UU
 | [.agg [.int .i64 a0_X, .int .i64 a0_Y, .int .i64 a0_W, .int .i64 a0_H], .agg [.int .i64 a1_X, .int .i64 a1_Y, .int .i64 a1_W, .int .i64 a1_H]] => some ([], .bool (sp_zy a0_X a0_Y a0_W a0_H a1_X a1_Y a1_W a1_H))
 | _ => none
def C_zy : Cfg UU := C_zae.add 35 m_zy
theorem s_zy : SumOK C_zy := by
 refine s_zae.addD mixed (fn := Tryz.f35) (c := bo Tryz.f35) Tryz.func35 (by kernel_rfl) (by kernel_rfl) ?_
 intro xs cs r h hc
 unfold m_zy at h
 split at h
 ·rename_i a0_X a0_Y a0_W a0_H a1_X a1_Y a1_W a1_H
  cases h
  obtain ⟨F, hF⟩ := ok_zy a0_X a0_Y a0_W a0_H a1_X a1_Y a1_W a1_H
  refine ⟨by kernel_rfl, M_zy, F, false, ⟨?_⟩⟩
  rw [exec_zy]
  refine hF _ ?_
  rfl
 ·cases h
set_option maxRecDepth 100000
def b_zak_0 (F n r : Nat) (S : ASt UU) (K : AEx → ASt UU → Prop) : Prop := iter (execG (inliner M_zak F 0 C_zy) C_zy Tryz.f79.ntmps M_zak F 0 (cL (cB (cS (cF (cS (bo Tryz.f79))))))) (M_zak 0 0) n r S K
def k_zak_0 (F : Nat) (Post : AVal UU → Prop) : AEx → ASt UU → Prop := kBlock 0 (kSeq (inliner M_zak F 0 C_zy) C_zy Tryz.f79.ntmps M_zak F 0 (cS (cS (bo Tryz.f79))) (AEnds C_zy false Tryz.f79 Post))
theorem step_zak_0 (F n r : Nat) (K : AEx → ASt UU → Prop) (t2 : Bool) (t5 : List Rect) (t6 t7 : Int) : b_zak_0 F (n + 1) r (st_zak_0 t2 t5 t6 t7) K = g_zak_s0 (fun t2 t5 t6 t7 => b_zak_0 F n (r + 1) (st_zak_0 t2 t5 t6 t7) K) (fun t2 t5 t6 t7 => K .ret (st_zak_0 t2 t5 t6 t7)) (fun t2 t5 t6 t7 => K (.exit 0) (st_zak_0 t2 t5 t6 t7)) t2 t5 t6 t7 := by kernel_rfl
theorem cont_zak_0_0 (F : Nat) (Post : AVal UU → Prop) (t2 : Bool) (t5 : List Rect) (t6 t7 : Int) : k_zak_0 F Post .ret (st_zak_0 t2 t5 t6 t7) = g_zak_c0_0 (fun r0 => Post (.bool r0)) t2 t5 t6 t7 := by kernel_rfl
theorem cont_zak_0_1 (F : Nat) (Post : AVal UU → Prop) (t2 : Bool) (t5 : List Rect) (t6 t7 : Int) : k_zak_0 F Post (.exit 0) (st_zak_0 t2 t5 t6 t7) = g_zak_c0_1 (fun r0 => Post (.bool r0)) t2 t5 t6 t7 := by kernel_rfl
theorem entry_zak (F : Nat) (Post : AVal UU → Prop) (a0 : List Rect) : exec C_zy Tryz.f79.ntmps M_zak F 0 (bo Tryz.f79) (initSt [.sl .rect a0]) (AEnds C_zy false Tryz.f79 Post) = g_zak_e a0 (fun r0 => Post (.bool r0)) (fun t2 t5 t6 t7 => b_zak_0 F F 0 (st_zak_0 t2 t5 t6 t7) (k_zak_0 F Post)) := by kernel_rfl
theorem loop_zak_0 (F : Nat) (K : AEx → ASt UU → Prop) : ∀ (n r : Nat) (t2 : Bool) (t5 : List Rect) (t6 t7 : Int), b_zak_0 F n r (st_zak_0 t2 t5 t6 t7) K = w_zak_0 F  (fun t2 t5 t6 t7 => K .ret (st_zak_0 t2 t5 t6 t7)) (fun t2 t5 t6 t7 => K (.exit 0) (st_zak_0 t2 t5 t6 t7)) n t2 t5 t6 t7 := by
 intro n
 induction n with
 | zero => intros; rfl
 | succ n ih =>
  intro r t2 t5 t6 t7
  have e : (fun t2 t5 t6 t7 => b_zak_0 F n (r + 1) (st_zak_0 t2 t5 t6 t7) K) = w_zak_0 F  (fun t2 t5 t6 t7 => K .ret (st_zak_0 t2 t5 t6 t7)) (fun t2 t5 t6 t7 => K (.exit 0) (st_zak_0 t2 t5 t6 t7)) n := by
   funext t2 t5 t6 t7
   exact ih (r + 1) t2 t5 t6 t7
  rw [step_zak_0, e]
  rfl
theorem nl_zak_0 (F : Nat) (Post : AVal UU → Prop) (t2 : Bool) (t5 : List Rect) (t6 t7 : Int) : b_zak_0 F F 0 (st_zak_0 t2 t5 t6 t7) (k_zak_0 F Post) = n_zak_0 F (fun r0 => Post (.bool r0)) t2 t5 t6 t7 := by
 rw [loop_zak_0]
 have h0 : (fun t2 t5 t6 t7 => k_zak_0 F Post .ret (st_zak_0 t2 t5 t6 t7)) = (fun t2 t5 t6 t7 => g_zak_c0_0 (fun r0 => Post (.bool r0)) t2 t5 t6 t7) := by
  funext t2 t5 t6 t7
  rw [cont_zak_0_0]
 have h1 : (fun t2 t5 t6 t7 => k_zak_0 F Post (.exit 0) (st_zak_0 t2 t5 t6 t7)) = (fun t2 t5 t6 t7 => g_zak_c0_1 (fun r0 => Post (.bool r0)) t2 t5 t6 t7) := by
  funext t2 t5 t6 t7
  rw [cont_zak_0_1]
 rw [h0, h1]
 rfl
theorem exec_zak (F : Nat) (Post : AVal UU → Prop) (a0 : List Rect) : exec C_zy Tryz.f79.ntmps M_zak F 0 (bo Tryz.f79) (initSt [.sl .rect a0]) (AEnds C_zy false Tryz.f79 Post) = w_zak F a0 (fun r0 => Post (.bool r0)) := by
 rw [entry_zak]
 have e0 : (fun t2 t5 t6 t7 => b_zak_0 F F 0 (st_zak_0 t2 t5 t6 t7) (k_zak_0 F Post)) = (n_zak_0 F (fun r0 => Post (.bool r0))) := by
  funext t2 t5 t6 t7
  exact nl_zak_0 F Post t2 t5 t6 t7
 rw [e0]
 rfl
def m_zak : Model UU
 | [.sl .rect a0] => some ([pre_zak a0], .bool (sp_zak a0))
 | _ => none
def C_zak : Cfg UU := C_zy.add 79 m_zak
theorem s_zak : SumOK C_zak := by
 refine s_zy.addD mixed (fn := Tryz.f79) (c := bo Tryz.f79) Tryz.func79 (by kernel_rfl) (by kernel_rfl) ?_
 intro xs cs r h hc
 unfold m_zak at h
 split at h
 ·rename_i a0
  cases h
  obtain ⟨F, hF⟩ := ok_zak a0 hc
  refine ⟨by kernel_rfl, M_zak, F, false, ⟨?_⟩⟩
  rw [exec_zak]
  refine hF _ ?_
  rfl
 ·cases h
set_option maxRecDepth 100000
def b_zc_0 (F n r : Nat) (S : ASt UU) (K : AEx → ASt UU → Prop) : Prop := iter (execG (inliner M_zc F 0 C_zak) C_zak Tryz.f29.ntmps M_zc F 1 (cL (cB (cS (cF (cS (cS (cS (bo Tryz.f29))))))))) (M_zc 0 1) n r S K
def b_zc_1 (F n r : Nat) (S : ASt UU) (K : AEx → ASt UU → Prop) : Prop := iter (execG (inliner M_zc F 0 C_zak) C_zak Tryz.f29.ntmps M_zc F 3 (cL (cB (cS (cS (cB (cF (cS (cS (cL (cB (cS (cF (cS (cS (cS (bo Tryz.f29))))))))))))))))) (M_zc 0 3) n r S K
def k_zc_0 (F : Nat) (Post : AVal UU → Prop) : AEx → ASt UU → Prop := kBlock 1 (kSeq (inliner M_zc F 0 C_zak) C_zak Tryz.f29.ntmps M_zc F 0 (cS (cS (cS (cS (bo Tryz.f29))))) (AEnds C_zak false Tryz.f29 Post))
def k_zc_1 (F n r : Nat) (K : AEx → ASt UU → Prop) : AEx → ASt UU → Prop := kBlock 3 (kBlock 2 (kSeq (inliner M_zc F 0 C_zak) C_zak Tryz.f29.ntmps M_zc F 1 (cS (cS (cS (cL (cB (cS (cF (cS (cS (cS (bo Tryz.f29))))))))))) (kIter (execG (inliner M_zc F 0 C_zak) C_zak Tryz.f29.ntmps M_zc F 1 (cL (cB (cS (cF (cS (cS (cS (bo Tryz.f29))))))))) (M_zc 0 1) n r K)))
theorem step_zc_0 (F n r : Nat) (K : AEx → ASt UU → Prop) (t2 : Int) (t70 : List (List Rect)) (t71 t72 c3_0 c3_1 c3_2 c3_3 : Int) : b_zc_0 F (n + 1) r (st_zc_0 t2 t70 t71 t72 c3_0 c3_1 c3_2 c3_3) K = g_zc_s0 (fun t2 t70 t71 t72 c3_0 c3_1 c3_2 c3_3 => b_zc_0 F n (r + 1) (st_zc_0 t2 t70 t71 t72 c3_0 c3_1 c3_2 c3_3) K) (fun t2 t70 t71 t72 c3_0 c3_1 c3_2 c3_3 => K (.exit 1) (st_zc_0 t2 t70 t71 t72 c3_0 c3_1 c3_2 c3_3)) (fun t2 t70 t71 t72 c3_0 c3_1 c3_2 c3_3 => K .ret (st_zc_0 t2 t70 t71 t72 c3_0 c3_1 c3_2 c3_3)) t2 t70 t71 t72 c3_0 c3_1 c3_2 c3_3 (fun t2 t70 t71 t72 t76 t77 t78 c3_0 c3_1 c3_2 c3_3 => b_zc_1 F F 0 (st_zc_1 t2 t70 t71 t72 t76 t77 t78 c3_0 c3_1 c3_2 c3_3) (k_zc_1 F n r K)) := by kernel_rfl
theorem cont_zc_0_0 (F : Nat) (Post : AVal UU → Prop) (t2 : Int) (t70 : List (List Rect)) (t71 t72 c3_0 c3_1 c3_2 c3_3 : Int) : k_zc_0 F Post (.exit 1) (st_zc_0 t2 t70 t71 t72 c3_0 c3_1 c3_2 c3_3) = g_zc_c0_0 (fun r0 => Post (.int .i64 r0)) t2 t70 t71 t72 c3_0 c3_1 c3_2 c3_3 := by kernel_rfl
theorem cont_zc_0_1 (F : Nat) (Post : AVal UU → Prop) (t2 : Int) (t70 : List (List Rect)) (t71 t72 c3_0 c3_1 c3_2 c3_3 : Int) : k_zc_0 F Post .ret (st_zc_0 t2 t70 t71 t72 c3_0 c3_1 c3_2 c3_3) = g_zc_c0_1 (fun r0 => Post (.int .i64 r0)) t2 t70 t71 t72 c3_0 c3_1 c3_2 c3_3 := by kernel_rfl
theorem step_zc_1 (F n r : Nat) (K : AEx → ASt UU → Prop) (t2 : Int) (t70 : List (List Rect)) (t71 t72 : Int) (t76 : List Rect) (t77 t78 c3_0 c3_1 c3_2 c3_3 : Int) : b_zc_1 F (n + 1) r (st_zc_1 t2 t70 t71 t72 t76 t77 t78 c3_0 c3_1 c3_2 c3_3) K = g_zc_s1 (fun t2 t70 t71 t72 t76 t77 t78 c3_0 c3_1 c3_2 c3_3 => b_zc_1 F n (r + 1) (st_zc_1 t2 t70 t71 t72 t76 t77 t78 c3_0 c3_1 c3_2 c3_3) K) (fun t2 t70 t71 t72 t76 t77 t78 c3_0 c3_1 c3_2 c3_3 => K .ret (st_zc_1 t2 t70 t71 t72 t76 t77 t78 c3_0 c3_1 c3_2 c3_3)) (fun t2 t70 t71 t72 t76 t77 t78 c3_0 c3_1 c3_2 c3_3 => K (.exit 3) (st_zc_1 t2 t70 t71 t72 t76 t77 t78 c3_0 c3_1 c3_2 c3_3)) t2 t70 t71 t72 t76 t77 t78 c3_0 c3_1 c3_2 c3_3 := by kernel_rfl
theorem cont_zc_1_0 (F n r : Nat) (K : AEx → ASt UU → Prop) (t2 : Int) (t70 : List (List Rect)) (t71 t72 : Int) (t76 : List Rect) (t77 t78 c3_0 c3_1 c3_2 c3_3 : Int) : k_zc_1 F n r K .ret (st_zc_1 t2 t70 t71 t72 t76 t77 t78 c3_0 c3_1 c3_2 c3_3) = g_zc_c1_0 (fun t2 t70 t71 t72 c3_0 c3_1 c3_2 c3_3 => b_zc_0 F n (r + 1) (st_zc_0 t2 t70 t71 t72 c3_0 c3_1 c3_2 c3_3) K) (fun t2 t70 t71 t72 c3_0 c3_1 c3_2 c3_3 => K (.exit 1) (st_zc_0 t2 t70 t71 t72 c3_0 c3_1 c3_2 c3_3)) (fun t2 t70 t71 t72 c3_0 c3_1 c3_2 c3_3 => K .ret (st_zc_0 t2 t70 t71 t72 c3_0 c3_1 c3_2 c3_3)) t2 t70 t71 t72 t76 t77 t78 c3_0 c3_1 c3_2 c3_3 := by kernel_rfl
theorem cont_zc_1_1 (F n r : Nat) (K : AEx → ASt UU → Prop) (t2 : Int) (t70 : List (List Rect)) (t71 t72 : Int) (t76 : List Rect) (t77 t78 c3_0 c3_1 c3_2 c3_3 : Int) : k_zc_1 F n r K (.exit 3) (st_zc_1 t2 t70 t71 t72 t76 t77 t78 c3_0 c3_1 c3_2 c3_3) = g_zc_c1_1 (fun t2 t70 t71 t72 c3_0 c3_1 c3_2 c3_3 => b_zc_0 F n (r + 1) (st_zc_0 t2 t70 t71 t72 c3_0 c3_1 c3_2 c3_3) K) (fun t2 t70 t71 t72 c3_0 c3_1 c3_2 c3_3 => K (.exit 1) (st_zc_0 t2 t70 t71 t72 c3_0 c3_1 c3_2 c3_3)) (fun t2 t70 t71 t72 c3_0 c3_1 c3_2 c3_3 => K .ret (st_zc_0 t2 t70 t71 t72 c3_0 c3_1 c3_2 c3_3)) t2 t70 t71 t72 t76 t77 t78 c3_0 c3_1 c3_2 c3_3 := by kernel_rfl
theorem entry_zc (F : Nat) (Post : AVal UU → Prop) (qe qf : ByteArray) (qg qh qa qb : Int) (qc qd : List Rect) : exec C_zak Tryz.f29.ntmps M_zc F 0 (bo Tryz.f29) (initSt [.agg [.str qe, .str qf, .int .i64 qg, .int .i64 qh, .int .i64 qa, .int .i64 qb, .sl .rect qc, .sl .rect qd]]) (AEnds C_zak false Tryz.f29 Post) = g_zc_e qe qf qg qh qa qb qc qd (fun r0 => Post (.int .i64 r0)) (fun t2 t70 t71 t72 c3_0 c3_1 c3_2 c3_3 => b_zc_0 F F 0 (st_zc_0 t2 t70 t71 t72 c3_0 c3_1 c3_2 c3_3) (k_zc_0 F Post)) := by kernel_rfl
theorem loop_zc_1 (F : Nat) (K : AEx → ASt UU → Prop) : ∀ (n r : Nat) (t2 : Int) (t70 : List (List Rect)) (t71 t72 : Int) (t76 : List Rect) (t77 t78 c3_0 c3_1 c3_2 c3_3 : Int), b_zc_1 F n r (st_zc_1 t2 t70 t71 t72 t76 t77 t78 c3_0 c3_1 c3_2 c3_3) K = w_zc_1 F  (fun t2 t70 t71 t72 t76 t77 t78 c3_0 c3_1 c3_2 c3_3 => K .ret (st_zc_1 t2 t70 t71 t72 t76 t77 t78 c3_0 c3_1 c3_2 c3_3)) (fun t2 t70 t71 t72 t76 t77 t78 c3_0 c3_1 c3_2 c3_3 => K (.exit 3) (st_zc_1 t2 t70 t71 t72 t76 t77 t78 c3_0 c3_1 c3_2 c3_3)) n t2 t70 t71 t72 t76 t77 t78 c3_0 c3_1 c3_2 c3_3 := by
 intro n
 induction n with
 | zero => intros; rfl
 | succ n ih =>
  intro r t2 t70 t71 t72 t76 t77 t78 c3_0 c3_1 c3_2 c3_3
  have e : (fun t2 t70 t71 t72 t76 t77 t78 c3_0 c3_1 c3_2 c3_3 => b_zc_1 F n (r + 1) (st_zc_1 t2 t70 t71 t72 t76 t77 t78 c3_0 c3_1 c3_2 c3_3) K) = w_zc_1 F  (fun t2 t70 t71 t72 t76 t77 t78 c3_0 c3_1 c3_2 c3_3 => K .ret (st_zc_1 t2 t70 t71 t72 t76 t77 t78 c3_0 c3_1 c3_2 c3_3)) (fun t2 t70 t71 t72 t76 t77 t78 c3_0 c3_1 c3_2 c3_3 => K (.exit 3) (st_zc_1 t2 t70 t71 t72 t76 t77 t78 c3_0 c3_1 c3_2 c3_3)) n := by
   funext t2 t70 t71 t72 t76 t77 t78 c3_0 c3_1 c3_2 c3_3
   exact ih (r + 1) t2 t70 t71 t72 t76 t77 t78 c3_0 c3_1 c3_2 c3_3
  rw [step_zc_1, e]
  rfl
theorem nl_zc_1 (F n r : Nat) (K : AEx → ASt UU → Prop) (t2 : Int) (t70 : List (List Rect)) (t71 t72 : Int) (t76 : List Rect) (t77 t78 c3_0 c3_1 c3_2 c3_3 : Int) : b_zc_1 F F 0 (st_zc_1 t2 t70 t71 t72 t76 t77 t78 c3_0 c3_1 c3_2 c3_3) (k_zc_1 F n r K) = n_zc_1 F (fun t2 t70 t71 t72 c3_0 c3_1 c3_2 c3_3 => b_zc_0 F n (r + 1) (st_zc_0 t2 t70 t71 t72 c3_0 c3_1 c3_2 c3_3) K) (fun t2 t70 t71 t72 c3_0 c3_1 c3_2 c3_3 => K (.exit 1) (st_zc_0 t2 t70 t71 t72 c3_0 c3_1 c3_2 c3_3)) (fun t2 t70 t71 t72 c3_0 c3_1 c3_2 c3_3 => K .ret (st_zc_0 t2 t70 t71 t72 c3_0 c3_1 c3_2 c3_3)) t2 t70 t71 t72 t76 t77 t78 c3_0 c3_1 c3_2 c3_3 := by
 rw [loop_zc_1]
 have h0 : (fun t2 t70 t71 t72 t76 t77 t78 c3_0 c3_1 c3_2 c3_3 => k_zc_1 F n r K .ret (st_zc_1 t2 t70 t71 t72 t76 t77 t78 c3_0 c3_1 c3_2 c3_3)) = (fun t2 t70 t71 t72 t76 t77 t78 c3_0 c3_1 c3_2 c3_3 => g_zc_c1_0 (fun t2 t70 t71 t72 c3_0 c3_1 c3_2 c3_3 => b_zc_0 F n (r + 1) (st_zc_0 t2 t70 t71 t72 c3_0 c3_1 c3_2 c3_3) K) (fun t2 t70 t71 t72 c3_0 c3_1 c3_2 c3_3 => K (.exit 1) (st_zc_0 t2 t70 t71 t72 c3_0 c3_1 c3_2 c3_3)) (fun t2 t70 t71 t72 c3_0 c3_1 c3_2 c3_3 => K .ret (st_zc_0 t2 t70 t71 t72 c3_0 c3_1 c3_2 c3_3)) t2 t70 t71 t72 t76 t77 t78 c3_0 c3_1 c3_2 c3_3) := by
  funext t2 t70 t71 t72 t76 t77 t78 c3_0 c3_1 c3_2 c3_3
  rw [cont_zc_1_0]
 have h1 : (fun t2 t70 t71 t72 t76 t77 t78 c3_0 c3_1 c3_2 c3_3 => k_zc_1 F n r K (.exit 3) (st_zc_1 t2 t70 t71 t72 t76 t77 t78 c3_0 c3_1 c3_2 c3_3)) = (fun t2 t70 t71 t72 t76 t77 t78 c3_0 c3_1 c3_2 c3_3 => g_zc_c1_1 (fun t2 t70 t71 t72 c3_0 c3_1 c3_2 c3_3 => b_zc_0 F n (r + 1) (st_zc_0 t2 t70 t71 t72 c3_0 c3_1 c3_2 c3_3) K) (fun t2 t70 t71 t72 c3_0 c3_1 c3_2 c3_3 => K (.exit 1) (st_zc_0 t2 t70 t71 t72 c3_0 c3_1 c3_2 c3_3)) (fun t2 t70 t71 t72 c3_0 c3_1 c3_2 c3_3 => K .ret (st_zc_0 t2 t70 t71 t72 c3_0 c3_1 c3_2 c3_3)) t2 t70 t71 t72 t76 t77 t78 c3_0 c3_1 c3_2 c3_3) := by
  funext t2 t70 t71 t72 t76 t77 t78 c3_0 c3_1 c3_2 c3_3
  rw [cont_zc_1_1]
 rw [h0, h1]
 rfl
theorem loop_zc_0 (F : Nat) (K : AEx → ASt UU → Prop) : ∀ (n r : Nat) (t2 : Int) (t70 : List (List Rect)) (t71 t72 c3_0 c3_1 c3_2 c3_3 : Int), b_zc_0 F n r (st_zc_0 t2 t70 t71 t72 c3_0 c3_1 c3_2 c3_3) K = w_zc_0 F  (fun t2 t70 t71 t72 c3_0 c3_1 c3_2 c3_3 => K (.exit 1) (st_zc_0 t2 t70 t71 t72 c3_0 c3_1 c3_2 c3_3)) (fun t2 t70 t71 t72 c3_0 c3_1 c3_2 c3_3 => K .ret (st_zc_0 t2 t70 t71 t72 c3_0 c3_1 c3_2 c3_3)) n t2 t70 t71 t72 c3_0 c3_1 c3_2 c3_3 := by
 intro n
 induction n with
 | zero => intros; rfl
 | succ n ih =>
  intro r t2 t70 t71 t72 c3_0 c3_1 c3_2 c3_3
  have e : (fun t2 t70 t71 t72 c3_0 c3_1 c3_2 c3_3 => b_zc_0 F n (r + 1) (st_zc_0 t2 t70 t71 t72 c3_0 c3_1 c3_2 c3_3) K) = w_zc_0 F  (fun t2 t70 t71 t72 c3_0 c3_1 c3_2 c3_3 => K (.exit 1) (st_zc_0 t2 t70 t71 t72 c3_0 c3_1 c3_2 c3_3)) (fun t2 t70 t71 t72 c3_0 c3_1 c3_2 c3_3 => K .ret (st_zc_0 t2 t70 t71 t72 c3_0 c3_1 c3_2 c3_3)) n := by
   funext t2 t70 t71 t72 c3_0 c3_1 c3_2 c3_3
   exact ih (r + 1) t2 t70 t71 t72 c3_0 c3_1 c3_2 c3_3
  have e1 : (fun t2 t70 t71 t72 t76 t77 t78 c3_0 c3_1 c3_2 c3_3 => b_zc_1 F F 0 (st_zc_1 t2 t70 t71 t72 t76 t77 t78 c3_0 c3_1 c3_2 c3_3) (k_zc_1 F n r K)) = (n_zc_1 F (fun t2 t70 t71 t72 c3_0 c3_1 c3_2 c3_3 => b_zc_0 F n (r + 1) (st_zc_0 t2 t70 t71 t72 c3_0 c3_1 c3_2 c3_3) K) (fun t2 t70 t71 t72 c3_0 c3_1 c3_2 c3_3 => K (.exit 1) (st_zc_0 t2 t70 t71 t72 c3_0 c3_1 c3_2 c3_3)) (fun t2 t70 t71 t72 c3_0 c3_1 c3_2 c3_3 => K .ret (st_zc_0 t2 t70 t71 t72 c3_0 c3_1 c3_2 c3_3))) := by
   funext t2 t70 t71 t72 t76 t77 t78 c3_0 c3_1 c3_2 c3_3
   exact nl_zc_1 F n r K t2 t70 t71 t72 t76 t77 t78 c3_0 c3_1 c3_2 c3_3
  rw [step_zc_0, e1, e]
  rfl
theorem nl_zc_0 (F : Nat) (Post : AVal UU → Prop) (t2 : Int) (t70 : List (List Rect)) (t71 t72 c3_0 c3_1 c3_2 c3_3 : Int) : b_zc_0 F F 0 (st_zc_0 t2 t70 t71 t72 c3_0 c3_1 c3_2 c3_3) (k_zc_0 F Post) = n_zc_0 F (fun r0 => Post (.int .i64 r0)) t2 t70 t71 t72 c3_0 c3_1 c3_2 c3_3 := by
 rw [loop_zc_0]
 have h0 : (fun t2 t70 t71 t72 c3_0 c3_1 c3_2 c3_3 => k_zc_0 F Post (.exit 1) (st_zc_0 t2 t70 t71 t72 c3_0 c3_1 c3_2 c3_3)) = (fun t2 t70 t71 t72 c3_0 c3_1 c3_2 c3_3 => g_zc_c0_0 (fun r0 => Post (.int .i64 r0)) t2 t70 t71 t72 c3_0 c3_1 c3_2 c3_3) := by
  funext t2 t70 t71 t72 c3_0 c3_1 c3_2 c3_3
  rw [cont_zc_0_0]
 have h1 : (fun t2 t70 t71 t72 c3_0 c3_1 c3_2 c3_3 => k_zc_0 F Post .ret (st_zc_0 t2 t70 t71 t72 c3_0 c3_1 c3_2 c3_3)) = (fun t2 t70 t71 t72 c3_0 c3_1 c3_2 c3_3 => g_zc_c0_1 (fun r0 => Post (.int .i64 r0)) t2 t70 t71 t72 c3_0 c3_1 c3_2 c3_3) := by
  funext t2 t70 t71 t72 c3_0 c3_1 c3_2 c3_3
  rw [cont_zc_0_1]
 rw [h0, h1]
 rfl
theorem exec_zc (F : Nat) (Post : AVal UU → Prop) (qe qf : ByteArray) (qg qh qa qb : Int) (qc qd : List Rect) : exec C_zak Tryz.f29.ntmps M_zc F 0 (bo Tryz.f29) (initSt [.agg [.str qe, .str qf, .int .i64 qg, .int .i64 qh, .int .i64 qa, .int .i64 qb, .sl .rect qc, .sl .rect qd]]) (AEnds C_zak false Tryz.f29 Post) = w_zc F qe qf qg qh qa qb qc qd (fun r0 => Post (.int .i64 r0)) := by
 rw [entry_zc]
 have e0 : (fun t2 t70 t71 t72 c3_0 c3_1 c3_2 c3_3 => b_zc_0 F F 0 (st_zc_0 t2 t70 t71 t72 c3_0 c3_1 c3_2 c3_3) (k_zc_0 F Post)) = (n_zc_0 F (fun r0 => Post (.int .i64 r0))) := by
  funext t2 t70 t71 t72 c3_0 c3_1 c3_2 c3_3
  exact nl_zc_0 F Post t2 t70 t71 t72 c3_0 c3_1 c3_2 c3_3
 rw [e0]
 rfl
def m_zc : Model UU
 | [.agg [.str qe, .str qf, .int .i64 qg, .int .i64 qh, .int .i64 qa, .int .i64 qb, .sl .rect qc, .sl .rect qd]] => some ([], .int .i64 (sp_zc qe qf qg qh qa qb qc qd))
 | _ => none
def C_zc : Cfg UU := C_zak.add 29 m_zc
theorem s_zc : SumOK C_zc := by
 refine s_zak.addD mixed (fn := Tryz.f29) (c := bo Tryz.f29) Tryz.func29 (by kernel_rfl) (by kernel_rfl) ?_
 intro xs cs r h hc
 unfold m_zc at h
 split at h
 ·rename_i qe qf qg qh qa qb qc qd
  cases h
  obtain ⟨F, hF⟩ := ok_zc qe qf qg qh qa qb qc qd
  refine ⟨by kernel_rfl, M_zc, F, false, ⟨?_⟩⟩
  rw [exec_zc]
  refine hF _ ?_
  rfl
 ·cases h
set_option maxRecDepth 100000
def b_zj_0 (F n r : Nat) (S : ASt UU) (K : AEx → ASt UU → Prop) : Prop := iter (execG (inliner M_zj F 0 C_zc) C_zc Tryz.f53.ntmps M_zj F 0 (cL (cB (cS (cF (cS (bo Tryz.f53))))))) (M_zj 0 0) n r S K
def k_zj_0 (F : Nat) (Post : AVal UU → Prop) : AEx → ASt UU → Prop := kBlock 0 (kSeq (inliner M_zj F 0 C_zc) C_zc Tryz.f53.ntmps M_zj F 0 (cS (cS (bo Tryz.f53))) (AEnds C_zc false Tryz.f53 Post))
theorem step_zj_0 (F n r : Nat) (K : AEx → ASt UU → Prop) (t2 : Bool) (t16 t17 : Int) (l28 : zzI) : b_zj_0 F (n + 1) r (st_zj_0 t2 t16 t17 l28) K = g_zj_s0 (fun t2 t16 t17 l28 => b_zj_0 F n (r + 1) (st_zj_0 t2 t16 t17 l28) K) (fun t2 t16 t17 l28 => K .ret (st_zj_0 t2 t16 t17 l28)) (fun t2 t16 t17 l28 => K (.exit 0) (st_zj_0 t2 t16 t17 l28)) t2 t16 t17 l28 := by kernel_rfl
theorem cont_zj_0_0 (F : Nat) (Post : AVal UU → Prop) (t2 : Bool) (t16 t17 : Int) (l28 : zzI) : k_zj_0 F Post .ret (st_zj_0 t2 t16 t17 l28) = g_zj_c0_0 (fun r0 => Post (.bool r0)) t2 t16 t17 l28 := by kernel_rfl
theorem cont_zj_0_1 (F : Nat) (Post : AVal UU → Prop) (t2 : Bool) (t16 t17 : Int) (l28 : zzI) : k_zj_0 F Post (.exit 0) (st_zj_0 t2 t16 t17 l28) = g_zj_c0_1 (fun r0 => Post (.bool r0)) t2 t16 t17 l28 := by kernel_rfl
theorem entry_zj (F : Nat) (Post : AVal UU → Prop) (qi a0_X a0_Y a0_W a0_H a0_N : Int) : exec C_zc Tryz.f53.ntmps M_zj F 0 (bo Tryz.f53) (initSt [.agg [.int .i64 qi, .int .i64 a0_X, .int .i64 a0_Y, .int .i64 a0_W, .int .i64 a0_H, .int .i64 a0_N]]) (AEnds C_zc false Tryz.f53 Post) = g_zj_e qi a0_X a0_Y a0_W a0_H a0_N (fun r0 => Post (.bool r0)) (fun t2 t16 t17 l28 => b_zj_0 F F 0 (st_zj_0 t2 t16 t17 l28) (k_zj_0 F Post)) := by kernel_rfl
theorem loop_zj_0 (F : Nat) (K : AEx → ASt UU → Prop) : ∀ (n r : Nat) (t2 : Bool) (t16 t17 : Int) (l28 : zzI), b_zj_0 F n r (st_zj_0 t2 t16 t17 l28) K = w_zj_0 F  (fun t2 t16 t17 l28 => K .ret (st_zj_0 t2 t16 t17 l28)) (fun t2 t16 t17 l28 => K (.exit 0) (st_zj_0 t2 t16 t17 l28)) n t2 t16 t17 l28 := by
 intro n
 induction n with
 | zero => intros; rfl
 | succ n ih =>
  intro r t2 t16 t17 l28
  have e : (fun t2 t16 t17 l28 => b_zj_0 F n (r + 1) (st_zj_0 t2 t16 t17 l28) K) = w_zj_0 F  (fun t2 t16 t17 l28 => K .ret (st_zj_0 t2 t16 t17 l28)) (fun t2 t16 t17 l28 => K (.exit 0) (st_zj_0 t2 t16 t17 l28)) n := by
   funext t2 t16 t17 l28
   exact ih (r + 1) t2 t16 t17 l28
  rw [step_zj_0, e]
  rfl
theorem nl_zj_0 (F : Nat) (Post : AVal UU → Prop) (t2 : Bool) (t16 t17 : Int) (l28 : zzI) : b_zj_0 F F 0 (st_zj_0 t2 t16 t17 l28) (k_zj_0 F Post) = n_zj_0 F (fun r0 => Post (.bool r0)) t2 t16 t17 l28 := by
 rw [loop_zj_0]
 have h0 : (fun t2 t16 t17 l28 => k_zj_0 F Post .ret (st_zj_0 t2 t16 t17 l28)) = (fun t2 t16 t17 l28 => g_zj_c0_0 (fun r0 => Post (.bool r0)) t2 t16 t17 l28) := by
  funext t2 t16 t17 l28
  rw [cont_zj_0_0]
 have h1 : (fun t2 t16 t17 l28 => k_zj_0 F Post (.exit 0) (st_zj_0 t2 t16 t17 l28)) = (fun t2 t16 t17 l28 => g_zj_c0_1 (fun r0 => Post (.bool r0)) t2 t16 t17 l28) := by
  funext t2 t16 t17 l28
  rw [cont_zj_0_1]
 rw [h0, h1]
 rfl
theorem exec_zj (F : Nat) (Post : AVal UU → Prop) (qi a0_X a0_Y a0_W a0_H a0_N : Int) : exec C_zc Tryz.f53.ntmps M_zj F 0 (bo Tryz.f53) (initSt [.agg [.int .i64 qi, .int .i64 a0_X, .int .i64 a0_Y, .int .i64 a0_W, .int .i64 a0_H, .int .i64 a0_N]]) (AEnds C_zc false Tryz.f53 Post) = w_zj F qi a0_X a0_Y a0_W a0_H a0_N (fun r0 => Post (.bool r0)) := by
 rw [entry_zj]
 have e0 : (fun t2 t16 t17 l28 => b_zj_0 F F 0 (st_zj_0 t2 t16 t17 l28) (k_zj_0 F Post)) = (n_zj_0 F (fun r0 => Post (.bool r0))) := by
  funext t2 t16 t17 l28
  exact nl_zj_0 F Post t2 t16 t17 l28
 rw [e0]
 rfl
def m_zj : Model UU
 | [.agg [.int .i64 qi, .int .i64 a0_X, .int .i64 a0_Y, .int .i64 a0_W, .int .i64 a0_H, .int .i64 a0_N]] => some ([], .bool (sp_zj qi a0_X a0_Y a0_W a0_H a0_N))
 | _ => none
def C_zj : Cfg UU := C_zc.add 53 m_zj
theorem s_zj : SumOK C_zj := by
 refine s_zc.addD mixed (fn := Tryz.f53) (c := bo Tryz.f53) Tryz.func53 (by kernel_rfl) (by kernel_rfl) ?_
 intro xs cs r h hc
 unfold m_zj at h
 split at h
 ·rename_i qi a0_X a0_Y a0_W a0_H a0_N
  cases h
  obtain ⟨F, hF⟩ := ok_zj qi a0_X a0_Y a0_W a0_H a0_N
  refine ⟨by kernel_rfl, M_zj, F, false, ⟨?_⟩⟩
  rw [exec_zj]
  refine hF _ ?_
  rfl
 ·cases h
end
end Go.Proofs.YteffpgliiilnjaaGreatDoor
