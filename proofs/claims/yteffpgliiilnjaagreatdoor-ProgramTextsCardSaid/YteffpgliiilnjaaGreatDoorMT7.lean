/- Texts of this proof, one behind another: program.ParseOps: a line without its end, and what the lines of a text give one by one, in; program.ParseOps: the range over the lines of a text. Conditions: none.; program.ParseOps: the range over the lines of a text: a round, and all of them. Conditions; program.ParseOps: its contract. Conditions: none.; program.ParseOps: the dialects; its summary. Conditions: none.; program.FormatOps at every dialect. Conditions: none.; What pieces of code must make hold, in plain Lean; printed by gen.py. Conditions: none; de; ProgramTexts in plain Lean: the program and the reference write and read alike, and what w; That the code says what the printed pieces say, by the kernel; printed by gen.py. Conditio. Conditions: none. -/
import Derived.Test.YteffpgliiilnjaaGreatDoorMT6
namespace Go.Proofs.YteffpgliiilnjaaGreatDoor
open Go.Vm Go.RowKit
set_option linter.unusedVariables false
noncomputable section
def mkB (l : List UInt8) : ByteArray := ⟨l.toArray⟩
theorem aAz (l : List UInt8) : (mkB l).size = l.length := rfl
theorem aSP (s : ByteArray) : mkB s.data.toList = s := by
 apply ByteArray.ext
 simp [mkB]
theorem aDD (l : List UInt8) (h : l.length ≤ 1000000000) : qL (mkB l) (ByteArray.mk #[10]) ∧ pY (mkB l) (ByteArray.mk #[10]) = mkB (lL l) := by
 have e1 : ((ByteArray.mk #[10]).size : Int) = 1 := rfl
 unfold qL pY wC vW wB pZ
 rw [e1, aAz]
 cases hl : l.getLast? with
 | none =>
  have h0 : l = [] := List.getLast?_eq_none_iff.1 hl
  subst h0
  refine ⟨⟨fun q => by simp at q, trivial⟩, rfl⟩
 | some c =>
  obtain ⟨r, hr⟩ : ∃ r, l = r ++ [c] := List.getLast?_eq_some_iff.1 hl
  have hlen : l.length = r.length + 1 := by rw [hr]; simp
  have hw : aD ((l.length : Int) - 1) = (r.length : Int) := by
   rw [fU (by omega) (by omega)]
   omega
  rw [hw]
  have hx : (mkB l).extract r.length l.length = ByteArray.mk #[c] := by
   apply ByteArray.ext
   apply Array.toList_inj.1
   rw [hr]
   simp [ByteArray.data_extract, mkB]
  have hx0 : (mkB l).extract 0 r.length = mkB r := by
   apply ByteArray.ext
   apply Array.toList_inj.1
   rw [hr]
   simp [ByteArray.data_extract, mkB]
  rw [Int.toNat_natCast, hx, hx0, decide_eq_true (show (1 : Int) ≤ (l.length : Int) by omega), Bool.true_and]
  refine ⟨⟨fun _ => ⟨by omega, by omega⟩, ?_⟩, ?_⟩
  ·cases (ByteArray.mk #[c] == ByteArray.mk #[10]) with
   | true => exact ⟨by omega, by omega⟩
   | false => trivial
  ·unfold lL
   rw [hl]
   by_cases hc : c = 10
   ·subst hc
    have hb : (ByteArray.mk #[10] == ByteArray.mk #[10]) = true := by decide
    rw [hb, if_pos rfl, hr]
    simp
   ·have hb : (ByteArray.mk #[c] == ByteArray.mk #[10]) = false := by
     rw [Bool.eq_false_iff]
     intro q
     have := congrArg (fun b : ByteArray => b.data.toList) (aBz q)
     simp at this
     exact hc this
    rw [hb, if_neg (fun q => hc (Option.some.inj q))]
    rfl
def nQ (d : Int) (c : List Opn × Int × Int) (s : List UInt8) : List Opn × Int × Int :=
 (c.1 ++ [pC d (mkB (lL s)) c.2.1 c.2.2], eO (pC d (mkB (lL s)) c.2.1 c.2.2) c.2.1 c.2.2)
def dY (d : Int) (l : List (List UInt8)) : List Opn × Int × Int := l.foldl (nQ d) ([], 0, 0)
theorem aPT (d : Int) (l : List (List UInt8)) (s : List UInt8) : dY d (l ++ [s]) = nQ d (dY d l) s := by
 unfold dY
 rw [List.foldl_append]
 rfl
theorem aBm (d : Int) (f : List UInt8 → Int → Int → Opn) (hf : ∀ s x y, pC d (mkB s) x y = f s x y) : ∀ (l : List (List UInt8)) (c : List Opn × Int × Int),
  (l.foldl (nQ d) c).1 = c.1 ++ (l.map lL).rec (motive := fun _ => Int → Int → List Opn) (fun _ _ => []) (fun p _ ih x y => f p x y :: ih (eO (f p x y) x y).1 (eO (f p x y) x y).2) c.2.1 c.2.2
 | [], c => by simp
 | s :: l, c => by
  rw [List.foldl_cons, aBm d f hf l]
  unfold nQ
  rw [hf]
  simp
theorem aAb {num : List UInt8 → Option Int} {ks : zzI} {wd : Int → List UInt8} {rd : Int → zzI → Int → Int → Opn} : ∀ (l : List (List UInt8)) (x y : Int),
  l.rec (motive := fun _ => Int → Int → List Opn) (fun _ _ => []) (fun p _ ih x y => jC num ks wd rd p x y :: ih (eO (jC num ks wd rd p x y) x y).1 (eO (jC num ks wd rd p x y) x y).2) x y = pD num ks wd rd eO l x y
 | [], _, _ => rfl
 | p :: l, x, y => by
  unfold pD
  exact congrArg _ (aAb l _ _)
theorem aPU {d : Int} (hd : d = 1 ∨ d = 2 ∨ d = 3) (t : List UInt8) : (dY d (dX t)).1 = kJ d t := by
 have hm := aSz t.length t (Nat.le_refl _)
 unfold kJ dY
 rcases hd with rfl | rfl | rfl
 ·rw [if_pos rfl, aBm 1 (jC gN [1, 2, 4, 3] (eH gQ) fun k l _ _ => rdU k l 0 0) (fun s x y => rfl), hm]
  exact aAb _ 0 0
 ·rw [if_neg (by decide), if_pos rfl, aBm 2 (jC gN [1, 2, 4, 3] (eH gJ) rdU) (fun s x y => rfl), hm]
  exact aAb _ 0 0
 ·rw [if_neg (by decide), if_neg (by decide), aBm 3 (jC gN [5, 6] (eH gP) rdB) (fun s x y => rfl), hm]
  exact aAb _ 0 0
theorem aK2 : ∀ (n : Nat) (r : List UInt8), r.length ≤ n → (lnN n r).flatten = r ∧ ∀ p ∈ lnN n r, 1 ≤ p.length
 | 0, r, h => by
  obtain rfl := List.eq_nil_of_length_eq_zero (Nat.le_zero.1 h)
  exact ⟨rfl, fun p hp => by cases hp⟩
 | n + 1, [], h => ⟨rfl, fun p hp => by cases hp⟩
 | n + 1, b :: r, h => by
  unfold lnN
  have hl := (tP (b :: r) 10).2
  split
  ·rename_i hi
   obtain ⟨h1, h2⟩ := aK2 n ((b :: r).drop (Lib.indexByte (b :: r) 10 + 1).toNat) (by rw [List.length_drop]; omega)
   refine ⟨?_, fun p hp => ?_⟩
   ·rw [List.flatten_cons, h1, List.take_append_drop]
   ·rcases List.mem_cons.1 hp with rfl | hp
    ·rw [List.length_take]
     rw [List.length_cons] at hl ⊢
     omega
    ·exact h2 p hp
  ·refine ⟨by simp, fun p hp => ?_⟩
   obtain rfl := List.mem_singleton.1 hp
   simp
theorem aK8 (t : List UInt8) : (dX t).flatten = t ∧ ∀ p ∈ dX t, 1 ≤ p.length := aK2 t.length t (Nat.le_refl _)
theorem aK7 (t : List UInt8) : (dX t).length ≤ t.length := by
 obtain ⟨h1, h2⟩ := aK8 t
 have h3 : (dX t).length ≤ (dX t).flatten.length := by
  revert h2
  generalize dX t = L
  intro h2
  induction L with
  | nil => simp
  | cons p L ih =>
   rw [List.flatten_cons, List.length_append, List.length_cons]
   have := h2 p (List.mem_cons_self ..)
   have := ih fun q hq => h2 q (List.mem_cons_of_mem _ hq)
   omega
 rw [h1] at h3
 exact h3
theorem aTD {t p : List UInt8} (h : p ∈ dX t) : p.length ≤ t.length := by
 obtain ⟨h1, _⟩ := aK8 t
 have : p.length ≤ (dX t).flatten.length := (List.sublist_flatten_of_mem h).length_le
 rwa [h1] at this
theorem aDC (l : List UInt8) : (lL l).length ≤ l.length := by
 unfold lL
 split
 ·rw [List.length_dropLast]; omega
 ·exact Nat.le_refl _
theorem aIm (d : Int) (l : List (List UInt8)) : (dY d l).1.length = l.length := by
 unfold dY
 have key : ∀ (l : List (List UInt8)) (c : List Opn × Int × Int), (l.foldl (nQ d) c).1.length = c.1.length + l.length := by
  intro l
  induction l with
  | nil => intro c; rfl
  | cons s l ih =>
   intro c
   rw [List.foldl_cons, ih, List.length_cons]
   simp [nQ]
   omega
 rw [key]
 simp
end
end Go.Proofs.YteffpgliiilnjaaGreatDoor
namespace Go.Proofs.YteffpgliiilnjaaGreatDoor
open Go.Vm Go.RowKit
set_option linter.unusedVariables false
set_option maxRecDepth 100000
noncomputable section
def obP (fz : Frz) (f1 f2 : Nat) (x y : Int) (ops : List Opn) : Nat → Option (bA UU) := fun u => cond (Nat.beq u 55) (some (.row .op 0 ops)) (cond (Nat.beq u 6) (some (.cells [.frz fz, .fn f1 [], .fn f2 []])) (cond (Nat.beq u 8) (some (.cells [.osl 55 0])) (cond (Nat.beq u 9) (some (.cells [.int .i64 x, .int .i64 y])) (none))))
def tmP (d : Int) (t : ByteArray) (ex : Nat → aA UU) : Nat → aA UU := fun u => cond (Nat.beq u 0) (.int .i64 d) (cond (Nat.beq u 1) (.str t) (cond (Nat.beq u 6) (.ptr 6 0) (cond (Nat.beq u 8) (.ptr 8 0) (cond (Nat.beq u 9) (.ptr 9 0) (ex u)))))
def exS (s : ByteArray) : Nat → aA UU := fun u => cond (Nat.beq u 10) (.str s) (.any)
def mcO : Canon UU := ⟨[0, 1, 6, 8, 9], [6, 8, 9], [(.cell 8 0, 55, .op)], [], []⟩
def p0 : Code := bo Tryz.f22
def pz : Code := cS (cS (cS (cS (cS (cS p0)))))
def aAn : Code := cS pz
def q8 : Code := cF (cF pz)
def prf : Code := cB (cS (cF pz))
def pbd : Code := cB (cG prf)
def q9 : Code := match prf with
 | .rangeFunc _ _ a _ => a
 | c => c
theorem aQN : p0 = .seq (cF p0) (.seq (cF (cS p0)) (.seq (cF (cS (cS p0))) (.seq (cF (cS (cS (cS p0)))) (.seq (cF (cS (cS (cS (cS p0))))) (.seq (cF (cS (cS (cS (cS (cS p0)))))) pz))))) := by kernel_rfl
theorem aPo : pz = .seq (.seq q8 (.block 0 prf)) aAn := by kernel_rfl
theorem aPy : prf = .rangeFunc (.tmp 27) #[28] q9 (.block 1 pbd) := by kernel_rfl
theorem aPn : q8 = .region 8 (cR q8) false := by kernel_rfl
theorem aPl : q9 = .region 9 (cR q9) false := by kernel_rfl
theorem aPm : (cR q8).toList = [opn q8 0, opn q8 1] := by kernel_rfl
theorem aPk : (cR q9).toList = [opn q9 0] := by kernel_rfl
theorem aJF : pbd = .seq (.region 10 (cR (cF pbd)) true) (.seq (.region 11 (cR (cF (cS pbd))) false) (.region 12 (cR (cS (cS pbd))) false)) := by kernel_rfl
theorem aSK : kK (cR (cF pbd)).toList = true := by kernel_rfl
theorem aSJ : kK (cR (cF (cS pbd))).toList = true := by kernel_rfl
theorem aSI : kK (cR (cS (cS pbd))).toList = true := by kernel_rfl
theorem nd9 : kK (cR q9).toList = true := by kernel_rfl
theorem aVu {a : Act} {w : World} {P : Program} {o : Oper} {x : Operand} (ho : o.op = .move x) : (execOp a.eval o).run P w = .ok (.value (a.eval x)) w := by
 unfold execOp
 rw [ho]
 rfl
theorem aTB (s : ByteArray) (w : World) : Calls Tryz.prog 63 #[.string s] w fun e w' => e = .returned (.func (.func 120) #[] #[.pointer (some ⟨w.heap.size, 0, none⟩)]) ∧ w' = w.alloc (.cells #[.string s] 9) := by
 go_enter Tryz.func63, Tryz.ntmps63
 go_wp2
 go_ret
 exact ⟨rfl, rfl⟩
structure Dpk (d : Int) (fz : Frz) (f1 f2 : Nat) (fo : List Opn → ByteArray × Int) : Prop where
 body : ∀ (t : ByteArray) (ops : List Opn) (x y : Int) (l : List UInt8) (Kc : ASt UU → Prop) (Post : aA UU → Prop), l.length ≤ 200000 → ops.length ≤ 200000 → Kc ⟨tmP d t (fun _ => .any), obP fz f1 f2 (nQ d (ops, x, y) l).2.1 (nQ d (ops, x, y) l).2.2 (nQ d (ops, x, y) l).1⟩ →
  ∃ M F, exec bE 55 M F 1 pbd ⟨tmP d t (exS (mkB l)), obP fz f1 f2 x y ops⟩ (eL mcO Kc (aT bE true Tryz.f22 Post))
section
variable {C : Cfg UU} {n : Nat} {N : Nat → Prop} {w0 : Fr} {w w' : World} {ρ : Vm.Own} {s : ASt UU} {a : Act} {M : Nat → Nat → Nat → Canon UU} {F cur : Nat} {Q : Exit → Act → World → Prop} {K : AEx → ASt UU → Prop} {X : oJ UU} {m r id : Nat} {ops : Array Oper}
theorem aLr {x y : Code} : dR X C n M F cur (.seq x y) s K = dR X C n M F cur x s (cN X C n M F cur y K) := rfl
theorem aKp {y : Code} : cN X C n M F cur y K .normal s = dR X C n M F cur y s K := rfl
theorem aRg {K : Act → World → Prop} {R : Exit → Act → World → Prop} {b : Nat} (h : ∀ a w, ¬ R .outgrown a w) : ¬ LetsOut (Exit.then K (Exit.inBlock b R)) := fun ⟨a, w, q⟩ => h a w q
theorem aXa (hs : eW C w0) (hmix : C.P.follows .mixedOrders = true) (hd : kK ops.toList = true) (hL : ¬ LetsOut Q) (h : dR X C n M F cur (.region id ops true) s K) (hR : RR C.E n N w0 ρ s a w)
  (hK : ∀ s' ρ' a' w', K .normal s' → RR C.E n N w0 ρ' s' a' w' → Q .normal a' w') : (Code.region id ops true).wpIn (Fence.wide.inRound r) m C.P Q a w :=
 aX9 (K := fun s' => K .normal s') hs hmix hd hL hR h hK
theorem aMK (hs : eW C w0) (hdep : C.dep = 0) (hd : kK ops.toList = true) (h : dR X C n M F cur (.region id ops false) s K) (hR : RR C.E n N w0 ρ s a w)
  (hK : ∀ s' ρ' a' w', K .normal s' → RR C.E n N w0 ρ' s' a' w' → Q .normal a' w') : (Code.region id ops false).wpIn (Fence.wide.inRound r) m C.P Q a w := by
 simp only [dR, hdep] at h
 split at h
 ·rename_i cs s' hrun
  obtain ⟨hc, hk⟩ := xE h
  exact aXz hs hd hR hrun hc (fun ρ' a' w' hR' => hK s' ρ' a' w' hk hR')
 ·exact h.elim
end
def Kp (bx D b : Nat) : Prop := b = bx ∨ b = D ∨ b = D + 1
def kU (b6 b8 b9 : Nat) : Nat → Option (Nat × Value) := fun id => cond (Nat.beq id 6) (some (0, .pointer (some ⟨b6, 0, none⟩))) (cond (Nat.beq id 8) (some (0, .pointer (some ⟨b8, 0, none⟩))) (cond (Nat.beq id 9) (some (0, .pointer (some ⟨b9, 0, none⟩))) none))
theorem c8 {b6 b8 b9 : Nat} : ∀ id p, kU b6 b8 b9 id = some p → ∃ a, p.2 = .pointer a := by
 intro id p h
 unfold kU at h
 cases h6 : Nat.beq id 6
 ·cases h8 : Nat.beq id 8
  ·cases h9 : Nat.beq id 9
   ·rw [h6, h8, h9] at h
    cases h
   ·rw [h6, h8, h9] at h
    cases h
    exact ⟨_, rfl⟩
  ·rw [h6, h8] at h
   cases h
   exact ⟨_, rfl⟩
 ·rw [h6] at h
  cases h
  exact ⟨_, rfl⟩
theorem aQC {b6 b8 b9 : Nat} : ∀ id p, kU b6 b8 b9 id = some p → id ∈ mcO.cells := by
 intro id p h
 unfold kU at h
 show id ∈ [6, 8, 9]
 cases h6 : Nat.beq id 6
 ·cases h8 : Nat.beq id 8
  ·cases h9 : Nat.beq id 9
   ·rw [h6, h8, h9] at h
    cases h
   ·simp [Nat.eq_of_beq_eq_true h9]
  ·simp [Nat.eq_of_beq_eq_true h8]
 ·simp [Nat.eq_of_beq_eq_true h6]
def vE (d : Int) (fz : Frz) (f1 f2 : Nat) (N : Nat → Prop) (w0 : World) (bx D b6 b8 b9 : Nat) (a0 : Act) (t : ByteArray) (pre : List (List UInt8)) (W : World) : Prop :=
 ∃ (ρ : Vm.Own) (hlt : ∀ b, Kp bx D b → b < W.heap.size) (hle : w0.heap.size ≤ W.heap.size), RR EE 55 (fun b => N b ∨ Kp bx D b) (FrA w0 W (Kp bx D) hlt hle (kU b6 b8 b9) c8 []) ρ ⟨tmP d t (fun _ => .any), obP fz f1 f2 (dY d pre).2.1 (dY d pre).2.2 (dY d pre).1⟩ a0 W
variable {d : Int} {fz : Frz} {f1 f2 : Nat} {fo : List Opn → ByteArray × Int} {N : Nat → Prop} {w0 : World} {bx D b6 b8 b9 : Nat} {a0 : Act} {t : ByteArray} {pre : List (List UInt8)}
theorem vE.keep {W W' : World} (h : vE d fz f1 f2 N w0 bx D b6 b8 b9 a0 t pre W) (hN : ∀ b, N b → b < w0.heap.size) (hge : ∀ b, Kp bx D b → w0.heap.size ≤ b) (hs : ∀ b : Nat, b < W.heap.size → ¬ Kp bx D b → W'.heap[b]? = W.heap[b]?) (hz : W.heap.size ≤ W'.heap.size) (ho : W'.os = W.os) (ht : W'.tape = W.tape) (hu : W'.output = W.output) :
  vE d fz f1 f2 N w0 bx D b6 b8 b9 a0 t pre W' := by
 obtain ⟨ρ, hlt, hle, hR⟩ := h
 have hb : Below w0.heap.size w0 W := hR.below
 have hb' : Below w0.heap.size w0 W' := ⟨ho.trans hb.os, ht.trans hb.tape, hu.trans hb.output, Nat.le_trans hb.size hz, fun k hk => (hs k (Nat.lt_of_lt_of_le hk hle) (fun hK => by have := hge k hK; omega)).trans (hb.block k hk)⟩
 refine ⟨ρ, fun b hb => Nat.lt_of_lt_of_le (hlt b hb) hz, Nat.le_trans hle hz, ?_⟩
 exact hR.anchor rfl hR.pin rfl hR.defers rfl rfl (fun b hb => hb.elim (fun h => .inl (hN b h)) .inr) (fun b hs => hs.2.1) hR.free (fun nm g u b hr hb => hR.mP hr hb) (fun b hb hn => hs b hb (fun hK => hn (.inr hK))) hb' hz
end
end Go.Proofs.YteffpgliiilnjaaGreatDoor
namespace Go.Proofs.YteffpgliiilnjaaGreatDoor
open Go.Vm Go.RowKit
set_option linter.unusedVariables false
set_option maxRecDepth 100000
noncomputable section
variable {d : Int} {fz : Frz} {f1 f2 : Nat} {fo : List Opn → ByteArray × Int} {N N' : Nat → Prop} {w0 : World} {bx D b6 b8 b9 : Nat} {a0 : Act} {t : ByteArray} {pre : List (List UInt8)}
theorem aLo {n : Nat} {fn : Func} {fr : Bool} {F : Fr} {e : AEx} {s' : ASt UU} {ρ' : Vm.Own} {a' : Act} {w' : World} {Post : aA UU → Prop} (h : aT bE fr fn Post e s') (hR : RR EE n N' F ρ' s' a' w') (h0 : F.w0 = w0) (hN : ∀ b, N b → N' b) (hNlt : ∀ b, N b → b < w0.heap.size) :
  ∃ v r, (results fn a'.tmps).run Tryz.prog w' = .ok v w' ∧ Post r ∧ fZ EE w0.heap.size N w' r v := by
 have hR2 : RR EE n N F ρ' s' a' w' := hR.aLp hN
 have hr : ∃ r, result bE fr fn s' = some r ∧ Post r := by
  cases hr : result bE fr fn s' with
  | none => exfalso; cases e <;> simp [aT, hr] at h
  | some r => cases e <;> simp only [aT, hr] at h <;> exact ⟨r, rfl, h⟩
 obtain ⟨r, hr, hK⟩ := hr
 obtain ⟨v, h1, h2⟩ := aDP (C := bE) (w0 := F) (N := N) hR2 (fun b hb => by
  unfold Fr.heap
  rw [h0]
  exact hNlt b hb) hr
 unfold Fr.heap at h2
 rw [h0] at h2
 exact ⟨v, r, h1, hK, h2⟩
theorem aLx {fn : Func} {fr : Bool} {e : AEx} {s' : ASt UU} {Post : aA UU → Prop} (h : aT bE fr fn Post e s') : e = .normal ∨ e = .ret := by
 cases e with
 | normal => exact .inl rfl
 | exit id => exact h.elim
 | ret => exact .inr rfl
theorem aD5 {n : Nat} {F : Fr} {ρ : Vm.Own} {s : ASt UU} {a : Act} {W : World} (hR : RR EE n N F ρ s a W) {i b : Nat} (ht : s.tmps i = .ptr i 0) (hp : ρ (.ob i) = some (0, .pointer (some ⟨b, 0, none⟩))) : a.gA F i = .pointer (some ⟨b, 0, none⟩) := by
 have h := hR.tmps i
 rw [ht] at h
 generalize a.gA F i = v at h
 cases h with
 | ptr _ _ b' h =>
  rw [hp] at h
  cases h
  rfl
theorem aZO (Dp : Dpk d fz f1 f2 fo) (hi : inv2 w0) (hN : ∀ b, N b → b < w0.heap.size) (hge : ∀ b, Kp bx D b → w0.heap.size ≤ b) {W : World} {l : List UInt8} (hI : vE d fz f1 f2 N w0 bx D b6 b8 b9 a0 t pre W) (hl : l.length ≤ 200000) (hp : pre.length ≤ 200000) {r m : Nat} :
  (Code.block 1 pbd).wpIn (Fence.wide.inRound r) m Tryz.prog (fun e _ W' => e = .normal ∧ (∀ c, (c = bx ∨ c = D ∨ c = D + 1) → W'.heap[c]? = W.heap[c]?) ∧ vE d fz f1 f2 N w0 bx D b6 b8 b9 a0 t (pre ++ [l]) W') ((a0.put (some 28) (.string (mkB l))).put (some 10) (.string (mkB l))) W := by
 obtain ⟨ρ, hlt, hle, hR⟩ := hI
 have hsat : eW bE w0 := zX.at (show bE.inv w0 from hi)
 have hR1 := (hR.nX (d := 28) (by decide) rfl (.string (mkB l))).aAe (d := 10) (by decide) (s' := ⟨tmP d t (exS (mkB l)), obP fz f1 f2 (dY d pre).2.1 (dY d pre).2.2 (dY d pre).1⟩) (Rel.str (mkB l)) rfl rfl (fun u hu => by
  simp only [tmP, exS, eF hu, cond_false])
 have hstep : dY d (pre ++ [l]) = nQ d ((dY d pre).1, (dY d pre).2.1, (dY d pre).2.2) l := aPT d pre l
 obtain ⟨M, F, hex⟩ := Dp.body t (dY d pre).1 (dY d pre).2.1 (dY d pre).2.2 l (fun s'' => s'' = ⟨tmP d t (fun _ => .any), obP fz f1 f2 (dY d (pre ++ [l])).2.1 (dY d (pre ++ [l])).2.2 (dY d (pre ++ [l])).1⟩) (fun _ => True) hl (Nat.le_trans (Nat.le_of_eq (aIm d pre)) hp) (congrArg (fun c : List Opn × Int × Int => (⟨tmP d t (fun _ => .any), obP fz f1 f2 c.2.1 c.2.2 c.1⟩ : ASt UU)) hstep.symm)
 refine wpIn_block ?_
 unfold exec at hex
 rw [aJF, aLr] at hex
 rw [aJF]
 refine wpIn_seq (aXa (C := bE) (w0 := FrA w0 W (Kp bx D) hlt hle (kU b6 b8 b9) c8 []) hsat mixed aSK (aRg fun _ _ q => by cases q.1) hex hR1 (fun s1 ρ1 a1 w1 h1 hR2 => ?_))
 rw [aKp, aLr] at h1
 refine wpIn_seq (aMK (C := bE) (w0 := FrA w0 W (Kp bx D) hlt hle (kU b6 b8 b9) c8 []) hsat rfl aSJ h1 hR2 (fun s2 ρ2 a2 w2 h2 hR3 => ?_))
 rw [aKp] at h2
 refine aMK (C := bE) (w0 := FrA w0 W (Kp bx D) hlt hle (kU b6 b8 b9) c8 []) hsat rfl aSI h2 hR3 (fun s3 ρ3 a3 w3 h3 hR4 => ?_)
 simp only [eL] at h3
 split at h3
 ·rename_i s'' hcan
  subst h3
  obtain ⟨ρ4, hR5⟩ := pQ hR4 hcan aQC
  refine ⟨rfl, fun c hc => hR5.kept.2 c hc, ?_⟩
  have hpins : ∀ i p, kU b6 b8 b9 i = some p → ρ4 (.ob i) = some p := fun i p h => (hR5.pin i p h).2
  have hpins0 : ∀ i p, kU b6 b8 b9 i = some p → ρ (.ob i) = some p := fun i p h => (hR.pin i p h).2
  have hR6 : RR EE 55 (fun b => N b ∨ Kp bx D b) (FrA w0 W (Kp bx D) hlt hle (kU b6 b8 b9) c8 []) ρ4 ⟨tmP d t (fun _ => .any), obP fz f1 f2 (dY d (pre ++ [l])).2.1 (dY d (pre ++ [l])).2.2 (dY d (pre ++ [l])).1⟩ a0 w3 := by
   refine hR5.forget rfl (by rw [hR5.defers]; exact hR.defers) (by rw [hR5.size]; exact hR.size) (fun u => ?_)
   have hu := hR.tmps u
   by_cases e0 : u = 0
   ·subst e0
    exact Rel.pure rfl hu
   by_cases e1 : u = 1
   ·subst e1
    exact Rel.pure rfl hu
   by_cases e6 : u = 6
   ·subst e6
    rw [aD5 hR (i := 6) (b := b6) rfl (hpins0 6 _ rfl)]
    exact Rel.ptr 6 0 b6 (hpins 6 _ rfl)
   by_cases e8 : u = 8
   ·subst e8
    rw [aD5 hR (i := 8) (b := b8) rfl (hpins0 8 _ rfl)]
    exact Rel.ptr 8 0 b8 (hpins 8 _ rfl)
   by_cases e9 : u = 9
   ·subst e9
    rw [aD5 hR (i := 9) (b := b9) rfl (hpins0 9 _ rfl)]
    exact Rel.ptr 9 0 b9 (hpins 9 _ rfl)
   ·have e : tmP d t (fun _ => .any) u = .any := by simp only [tmP, eF e0, eF e1, eF e6, eF e8, eF e9, cond_false]
    show Rel EE w3 ρ4 _ (tmP d t (fun _ => .any) u) _
    rw [e]
    exact .any _
  have hz : W.heap.size ≤ w3.heap.size := hR6.kept.1
  refine ⟨ρ4, fun b hb => Nat.lt_of_lt_of_le (hlt b hb) hz, Nat.le_trans hle hz, ?_⟩
  exact hR6.anchor rfl hR6.pin rfl hR6.defers rfl rfl (fun b hb => hb.elim (fun h => .inl (hN b h)) .inr) (fun b hs => hs.2.1) hR6.free (fun nm g u b hr hb => hR6.mP hr hb) (fun b _ _ => rfl) hR6.below (Nat.le_refl _)
 ·exact h3.elim
end
end Go.Proofs.YteffpgliiilnjaaGreatDoor
namespace Go.Proofs.YteffpgliiilnjaaGreatDoor
open Go.Vm Go.RowKit
set_option linter.unusedVariables false
set_option maxRecDepth 100000
noncomputable section
variable {d : Int} {fz : Frz} {f1 f2 : Nat} {fo : List Opn → ByteArray × Int} {N N' : Nat → Prop} {w0 : World}
def jY (ops : List Opn) (e : Int) : aA UU := .tup [.new .op ops, .int .i64 e]
def jB (fo : List Opn → ByteArray × Int) (t : ByteArray) (ops : List Opn) : List Opn × Int := cond (((fo ops).2 != 0) || ((fo ops).1 != t)) ([], 3) (ops, 0)
def Res (N : Nat → Prop) (w0 : World) (r : aA UU) : Ending → World → Prop := fun e w' => ∃ v, e = .returned v ∧ fZ EE w0.heap.size N w' r v ∧ Below w0.heap.size w0 w'
def Lst (d : Int) (fz : Frz) (f1 f2 : Nat) (fo : List Opn → ByteArray × Int) : Prop := ∀ (t : ByteArray) (ops : List Opn) (x y : Int) (Post : aA UU → Prop), Post (jY (jB fo t ops).1 (jB fo t ops).2) →
 ∃ M F, exec bE 55 M F 0 aAn ⟨tmP d t (fun _ => .any), obP fz f1 f2 x y ops⟩ (aT bE true Tryz.f22 Post)
theorem aTH {b : Nat} {a : Act} {w : World} {R : Ending → World → Prop} {v : Value} (hd : a.defers = [{ target := .collected b, args := #[] }]) (hb : w.heap[b]? = some (.deferred (some []))) (hr : (results Tryz.f22 a.tmps).run Tryz.prog (w.putObj b (.deferred none)) = .ok v (w.putObj b (.deferred none))) (hR : R (.returned v) (w.putObj b (.deferred none))) :
  LeavesInM Fence.wide 10 Tryz.prog Tryz.f22 a.tmps R a.defers .returning w := by
 rw [hd]
 refine ⟨by simp, .inl ⟨b, _, rfl, run_takeDeferred hb, ?_⟩⟩
 exact ⟨v, hr, hR⟩
theorem aVw {a : Act} {w : World} {o : Oper} {f : Nat} {x : Operand} {u : Value} (ho : o.op = .call { callee := .value (.func f), args := #[x], argTypes := #[9] }) (hx : a.eval x = u) (hc : ∀ args w, (callFunc f args).run Tryz.prog w = .ok (.enter f args) w) : (execOp a.eval o).run Tryz.prog w = .ok (.enter f #[u]) w := by
 unfold execOp
 rw [ho]
 have e : a.eval (.func f) = .func (.func f) #[] #[] := rfl
 simp [resolve, e, Deferred.ofValue, invoke, hc, hx]
set_option maxHeartbeats 1000000 in
theorem aTA (Dp : Dpk d fz f1 f2 fo) (hl : Lst d fz f1 f2 fo) (hi : inv2 w0) (hN : ∀ b, N b → b < w0.heap.size) {t : ByteArray} (ht : t.size ≤ 160000) {ρ : Vm.Own} {a : Act} {w : World}
  (hR : RR EE 55 N (Fr.pure w0) ρ ⟨tmP d t (fun _ => .any), obP fz f1 f2 0 0 []⟩ a w) :
  pz.wp Tryz.prog (bodyPostM Fence.wide 10 Tryz.prog Tryz.f22 (Res N w0 (jY (jB fo t (dY d (dX t.data.toList)).1).1 (jB fo t (dY d (dX t.data.toList)).1).2))) a w := by
 have hsat : eW bE w0 := zX.at (show bE.inv w0 from hi)
 have hsz : a.tmps.size = 55 := hR.size
 rw [aPo]
 refine wp_seq (wp_seq ?_)
 rw [aPn]
 refine wp_region (vF ?_)
 rw [aPm]
 have h1 : a.eval (.tmp 1) = .string t := by
  have h := hR.eval (.tmp 1)
  have e : (⟨tmP d t (fun _ => .any), obP fz f1 f2 0 0 []⟩ : ASt UU).eval (.tmp 1) = .str t := rfl
  rw [e] at h
  generalize a.eval (.tmp 1) = u at h
  cases h
  rfl
 refine lI (d := 26) (u := .string t) (by kernel_rfl) (by kernel_rfl) (by rw [← h1]; exact aVu (x := .tmp 1) (by kernel_rfl)) ?_
 have h26 : (a.put (some 26) (.string t)).eval (.tmp 26) = .string t := (kT (by omega)).trans (if_pos rfl)
 have hR1 := hR.nX (d := 26) (by decide) rfl (.string t)
 unfold wpl
 rw [if_pos (aHz (by kernel_rfl))]
 refine aAM (aVw (f := 63) (x := .tmp 26) (by kernel_rfl) h26 (fun args w => gV (fn := Tryz.f63) Tryz.func63 (by kernel_rfl) rfl args w)) ((aTB t w).mono ?_)
 rintro e w8 ⟨rfl, wR⟩
 refine ⟨_, rfl, ?_⟩
 rw [show (opn q8 1).dst = some 27 by kernel_rfl]
 have hR2 := hR1.nX (d := 27) (by decide) rfl (.func (.func 120) #[] #[.pointer (some ⟨w.heap.size, 0, none⟩)])
 have h27 : ((a.put (some 26) (.string t)).put (some 27) (.func (.func 120) #[] #[.pointer (some ⟨w.heap.size, 0, none⟩)])).eval (.tmp 27) = .func (.func 120) #[] #[.pointer (some ⟨w.heap.size, 0, none⟩)] :=
  (kT (by simp [Act.put, hsz])).trans (if_pos rfl)
 generalize ((a.put (some 26) (.string t)).put (some 27) (.func (.func 120) #[] #[.pointer (some ⟨w.heap.size, 0, none⟩)])) = a2 at hR2 h27
 show (Code.block 0 prf).wp Tryz.prog _ a2 w8
 refine wp_block ?_
 rw [aPy]
 have hs8 : w8.heap.size = w.heap.size + 1 := by rw [wR]; simp
 have hbx : w8.heap[w.heap.size]? = some (.cells #[.string t] 9 (0, 0)) := by
  rw [wR]
  exact World.alloc_heap_new w _
 obtain ⟨b6, hb6⟩ : ∃ b, ρ (.ob 6) = some (0, .pointer (some ⟨b, 0, none⟩)) := by
  obtain ⟨b, c, ty, h, _⟩ := hR2.objs 6 _ rfl
  exact ⟨b, h⟩
 obtain ⟨b8, hb8⟩ : ∃ b, ρ (.ob 8) = some (0, .pointer (some ⟨b, 0, none⟩)) := by
  obtain ⟨b, c, ty, h, _⟩ := hR2.objs 8 _ rfl
  exact ⟨b, h⟩
 obtain ⟨b9, hb9⟩ : ∃ b, ρ (.ob 9) = some (0, .pointer (some ⟨b, 0, none⟩)) := by
  obtain ⟨b, c, ty, h, _⟩ := hR2.objs 9 _ rfl
  exact ⟨b, h⟩
 have hbw : Below w0.heap.size w0 w := hR.below
 have hge : ∀ b, Kp w.heap.size (w.heap.size + 1) b → w0.heap.size ≤ b := fun b hb => by
  have := hbw.size
  unfold Kp at hb
  omega
 have tB : ∀ l : List UInt8, (⟨l.toArray⟩ : ByteArray) = mkB l := fun l => rfl
 have hinv0 : ∀ r, vE d fz f1 f2 N w0 w.heap.size (w.heap.size + 1) b6 b8 b9 a2 t [] ((w8.alloc (.deferred (some []))).alloc (.loop r)) := fun r => by
  have hold : ∀ b : Nat, b < w.heap.size → ((w8.alloc (.deferred (some []))).alloc (.loop r)).heap[b]? = w.heap[b]? := fun b hb => by
   rw [heap_alloc_old _ _ (by simp; omega), heap_alloc_old _ _ (by omega), wR, heap_alloc_old _ _ hb]
  have hz : ((w8.alloc (.deferred (some []))).alloc (.loop r)).heap.size = w.heap.size + 3 := by simp; omega
  have hb' : Below w0.heap.size w0 ((w8.alloc (.deferred (some []))).alloc (.loop r)) := by
   refine ⟨?_, ?_, ?_, by have := hbw.size; omega, fun k hk => (hold k (by have := hbw.size; omega)).trans (hbw.block k hk)⟩
   ·rw [wR]; exact hbw.os
   ·rw [wR]; exact hbw.tape
   ·rw [wR]; exact hbw.output
  refine ⟨ρ, fun b hb => by unfold Kp at hb; omega, hb'.size, ?_⟩
  refine hR2.anchor rfl (fun id p hp => ?_) rfl hR2.defers rfl rfl (fun b hb => hb.elim (fun h => .inl (hN b h)) .inr) (fun b hs hn => ?_) (fun nm g u b hr hb hn => ?_) (fun nm g u b hr hb hn => ?_) (fun b hb hn => hold b hb) hb' (by omega)
  ·have hp' : kU b6 b8 b9 id = some p := hp
   unfold kU at hp'
   cases h6 : Nat.beq id 6
   ·cases h8 : Nat.beq id 8
    ·cases h9 : Nat.beq id 9
     ·rw [h6, h8, h9] at hp'
      cases hp'
     ·rw [h6, h8, h9] at hp'
      cases hp'
      obtain rfl := Nat.eq_of_beq_eq_true h9
      exact ⟨⟨_, rfl⟩, hb9⟩
    ·rw [h6, h8] at hp'
     cases hp'
     obtain rfl := Nat.eq_of_beq_eq_true h8
     exact ⟨⟨_, rfl⟩, hb8⟩
   ·rw [h6] at hp'
    cases hp'
    obtain rfl := Nat.eq_of_beq_eq_true h6
    exact ⟨⟨_, rfl⟩, hb6⟩
  ·rcases hn with hn | hn
   ·exact hs.2.1 hn
   ·have := hs.1
    unfold Kp at hn
    omega
  ·have := ((hR2.own hr).2 _ hb).2
   have hn : Kp w.heap.size (w.heap.size + 1) b := hn
   unfold Kp at hn
   omega
  ·rcases hn with hn | hn
   ·exact hR2.mP hr hb hn
   ·have := ((hR2.own hr).2 _ hb).2
    unfold Kp at hn
    omega
 have hsize : ∀ (A : World) (b : Nat) (v : Value), (A.setCell ⟨b, 0, none⟩ v).heap.size = A.heap.size := fun A b v => by simp [World.setCell]
 refine (wpIn_wide (n := 10)).1 (aMt (ps := #[28]) (F := Fence.wide) (n := 10) rfl (by decide) (gf := 120) (lb := #[.pointer (some ⟨w.heap.size, 0, none⟩)]) h27 trivial (fun args w => gV (fn := Tryz.f120) Tryz.func120 (by kernel_rfl) rfl args w) (b := w.heap.size)
  (encs := fun s : List UInt8 => #[.string ⟨s.toArray⟩]) (xs := dX t.data.toList) (st := fun pre => .string ⟨(t.data.toList.drop pre.flatten.length).toArray⟩) (Tryz.aTC 9 (by decide) w.heap.size t.data.toList (by rw [Array.length_toList]; have : t.data.size = t.size := rfl; omega)) (by omega) ?_ (fun _ => rfl)
  (vE d fz f1 f2 N w0 w.heap.size (w.heap.size + 1) b6 b8 b9 a2 t) (fun s A v hs => hs.keep hN hge (fun b hb hn => Below.heap_setCell A ⟨w.heap.size, 0, none⟩ v b (fun e => hn (.inl e))) (by rw [hsize]; exact Nat.le_refl _) rfl rfl rfl) (fun s A hs => hs.keep hN hge (fun _ _ _ => rfl) (Nat.le_refl _) rfl rfl rfl)
  (fun s A r r' hs hl => hs.keep hN hge (fun b hb hn => World.putObj_heap_other (fun e => hn (.inr (.inr (by rw [e, hs8]))))) (by simp [World.putObj]) rfl rfl rfl) hinv0 (fun x => (a2.put (some 28) (.string (mkB x))).put (some 10) (.string (mkB x))) ?_ ?_ ?_)
 ·refine ⟨?_, ?_⟩
  ·have e : (⟨(t.data.toList.drop ([] : List (List UInt8)).flatten.length).toArray⟩ : ByteArray) = t := by
    apply ByteArray.ext
    simp
   rw [e]
   unfold World.cell?
   simp [hbx]
  ·unfold World.frozen?
   simp [hbx]
 ·intro l x W K hK
  rw [aPl]
  refine aIu nd9 ?_
  rw [aPk]
  have hd : a2.defers = [] := hR2.defers
  have wQ : a2.tmps.size = 55 := hR2.size
  have e28 : ({ tmps := ((#[28] : Array Tmp).zip (#[.string ⟨x.toArray⟩] : Array Value)).foldl (fun t p => t.setIfInBounds p.1 p.2) a2.tmps, defers := [] } : Act) = a2.put (some 28) (.string (mkB x)) := by
   rw [← hd]
   simp [Act.put, mkB]
  show wpl Tryz.prog (cR q9) _ [opn q9 0] _ { tmps := ((#[28] : Array Tmp).zip (#[.string ⟨x.toArray⟩] : Array Value)).foldl (fun t p => t.setIfInBounds p.1 p.2) a2.tmps, defers := [] } W
  rw [e28]
  have h28 : (a2.put (some 28) (.string (mkB x))).eval (.tmp 28) = .string (mkB x) := (kT (by omega)).trans (if_pos rfl)
  refine lI (d := 10) (u := .string (mkB x)) (by kernel_rfl) (by kernel_rfl) (by have h := aGX (a := a2.put (some 28) (.string (mkB x))) (w := W) (P := Tryz.prog) (o := opn q9 0) (x := .tmp 28) (by kernel_rfl); rw [h28] at h; exact h) ?_
  exact hK
 ·intro l pre x W hpre hI hbox
  have hx : x ∈ dX t.data.toList := hpre.subset (by simp)
  have hlen : pre.length ≤ (dX t.data.toList).length := by
   have := hpre.length_le
   rw [List.length_append] at this
   omega
  have h2 := aK7 t.data.toList
  have h3 := aTD hx
  have hts : t.data.toList.length = t.size := by rw [Array.length_toList]; rfl
  have hb := aZO (r := l) (m := 10 - 1 - 1) Dp hi hN hge hI (l := x) (by omega) (by omega)
  rw [hs8]
  exact hb
 ·intro W hI hD
  obtain ⟨ρ', hlt, hle, hR3⟩ := hI
  rw [hs8] at hD ⊢
  show aAn.wp Tryz.prog _ { a2 with defers := { target := .collected (w.heap.size + 1), args := #[] } :: a2.defers } W
  have hd : a2.defers = [] := hR2.defers
  have hR4 : RR EE 55 (fun b => N b ∨ Kp w.heap.size (w.heap.size + 1) b) (FrA w0 W (Kp w.heap.size (w.heap.size + 1)) hlt hle (fun _ => none) (fun _ _ h => by cases h) [{ target := .collected (w.heap.size + 1), args := #[] }]) ρ' ⟨tmP d t (fun _ => .any), obP fz f1 f2 (dY d (dX t.data.toList)).2.1 (dY d (dX t.data.toList)).2.2 (dY d (dX t.data.toList)).1⟩ { a2 with defers := { target := .collected (w.heap.size + 1), args := #[] } :: a2.defers } W :=
   hR3.anchor rfl (fun _ _ h => by cases h) rfl (by rw [hd]; rfl) rfl rfl (fun b hb => hb.elim (fun h => .inl (hN b h)) .inr) (fun b hs => hs.2.1) hR3.free (fun nm g u b hr hb => hR3.mP hr hb) (fun b _ _ => rfl) hR3.below (Nat.le_refl _)
  obtain ⟨M, F, hex⟩ := hl t (dY d (dX t.data.toList)).1 (dY d (dX t.data.toList)).2.1 (dY d (dX t.data.toList)).2.2 (fun r => r = jY (jB fo t (dY d (dX t.data.toList)).1).1 (jB fo t (dY d (dX t.data.toList)).1).2) rfl
  refine uA (C := bE) ?hs mixed (fun _ _ _ _ _ h => by cases h) aAn 0 _ _ ρ' _ W _ hex hR4 (fun e s' ρ5 a' w' hK hR5 => ?_)
  case hs => exact hsat
  have hDw : w'.heap[w.heap.size + 1]? = some (.deferred (some [])) := (hR5.kept.2 (w.heap.size + 1) (.inr (.inl rfl))).trans hD
  have kB : Below w0.heap.size w0 w' := hR5.below
  have hz5 : (w'.putObj (w.heap.size + 1) (.deferred none)).heap.size = w'.heap.size := by simp [World.putObj]
  have hold5 : ∀ b : Nat, b ≠ w.heap.size + 1 → (w'.putObj (w.heap.size + 1) (.deferred none)).heap[b]? = w'.heap[b]? := fun b hb => World.putObj_heap_other hb
  have hb6' : Below w0.heap.size w0 (w'.putObj (w.heap.size + 1) (.deferred none)) := ⟨kB.os, kB.tape, kB.output, by rw [hz5]; exact kB.size, fun k hk => (hold5 k (by have := hbw.size; omega)).trans (kB.block k hk)⟩
  have hlt5 : ∀ b, Kp w.heap.size (w.heap.size + 1) b → b < (w'.putObj (w.heap.size + 1) (.deferred none)).heap.size := fun b hb => by rw [hz5]; exact Nat.lt_of_lt_of_le (hlt b hb) hR5.kept.1
  have hR6 : RR EE 55 (fun b => N b ∨ Kp w.heap.size (w.heap.size + 1) b) (FrA w0 (w'.putObj (w.heap.size + 1) (.deferred none)) (Kp w.heap.size (w.heap.size + 1)) hlt5 hb6'.size (fun _ => none) (fun _ _ h => by cases h) [{ target := .collected (w.heap.size + 1), args := #[] }]) ρ5 s' a' (w'.putObj (w.heap.size + 1) (.deferred none)) :=
   hR5.anchor rfl (fun _ _ h => by cases h) rfl hR5.defers rfl rfl (fun b hb => hb.elim (fun h => .inl (hN b h)) .inr) (fun b hs => hs.2.1) hR5.free (fun nm g u b hr hb => hR5.mP hr hb) (fun b hb hn => hold5 b (fun e' => hn (.inr (.inr (.inl e'))))) hb6' (by rw [hz5]; exact Nat.le_refl _)
  obtain ⟨v, r, h1', h2', h3'⟩ := aLo (fn := Tryz.f22) hK hR6 rfl (fun _ h => .inl h) hN
  subst h2'
  have hgo := aTH (R := Res N w0 (jY (jB fo t (dY d (dX t.data.toList)).1).1 (jB fo t (dY d (dX t.data.toList)).1).2)) hR5.defers hDw h1' ⟨v, rfl, h3', hb6'⟩
  rcases aLx hK with rfl | rfl
  ·exact hgo
  ·exact hgo
end
end Go.Proofs.YteffpgliiilnjaaGreatDoor
namespace Go.Proofs.YteffpgliiilnjaaGreatDoor
open Go.Vm Go.RowKit
set_option linter.unusedVariables false
set_option maxRecDepth 100000
noncomputable section
variable {d : Int} {fz : Frz} {f1 f2 : Nat} {fo : List Opn → ByteArray × Int} {N N' : Nat → Prop} {w0 : World}
def aTc (M : Nat → Nat → Nat → Canon UU) (F : Nat) (mc : Canon UU) (Kc : ASt UU → Prop) (Post : aA UU → Prop) : AEx → ASt UU → Prop :=
 cN (bX M F 0 bE) bE Tryz.f22.ntmps M F 0 (cF (cS p0)) (cN (bX M F 0 bE) bE Tryz.f22.ntmps M F 0 (cF (cS (cS p0))) (cN (bX M F 0 bE) bE Tryz.f22.ntmps M F 0 (cF (cS (cS (cS p0)))) (cN (bX M F 0 bE) bE Tryz.f22.ntmps M F 0 (cF (cS (cS (cS (cS p0))))) (cN (bX M F 0 bE) bE Tryz.f22.ntmps M F 0 (cF (cS (cS (cS (cS (cS p0)))))) (eL mc Kc (aT bE true Tryz.f22 Post))))))
def aCK (d : Int) (fz : Frz) (f1 f2 : Nat) : Prop := ∀ (t : ByteArray) (Post : aA UU → Prop) (Kc : ASt UU → Prop), (160000 < (t.size : Int) → Post (jY [] 4)) → (¬ 160000 < (t.size : Int) → Kc ⟨tmP d t (fun _ => .any), obP fz f1 f2 0 0 []⟩) →
 ∃ M F mc, exec bE Tryz.f22.ntmps M F 0 (cF p0) (bL [.int .i64 d, .str t]) (aTc M F mc (fun s => ∃ s', canon mcO s = some s' ∧ Kc s') Post)
theorem B1 : Dpk 1 .W1 112 114 fo where
 body := fun t ops x y l Kc Post hl ho h => by
  refine ⟨aHj, 0, cast (aVj 0 Post Kc t ops x y (mkB l)).symm ?_⟩
  obtain ⟨p1, p2⟩ := aDD l (by omega)
  unfold aIS aFx
  refine ⟨p1, ?_⟩
  rw [p2]
  refine ⟨by have := aDC l; unfold mC; rw [aAz]; omega, ?_, ?_⟩
  ·simp only [List.length_cons, List.length_nil]; omega
  ·exact h
theorem B2 : Dpk 2 .W2 113 115 fo where
 body := fun t ops x y l Kc Post hl ho h => by
  refine ⟨aHi, 0, cast (aVi 0 Post Kc t ops x y (mkB l)).symm ?_⟩
  obtain ⟨p1, p2⟩ := aDD l (by omega)
  unfold aIR aFw
  refine ⟨p1, ?_⟩
  rw [p2]
  refine ⟨by have := aDC l; unfold mC; rw [aAz]; omega, ?_, ?_⟩
  ·simp only [List.length_cons, List.length_nil]; omega
  ·exact h
theorem B3 : Dpk 3 .W3 116 117 fo where
 body := fun t ops x y l Kc Post hl ho h => by
  refine ⟨aHh, 0, cast (aVh 0 Post Kc t ops x y (mkB l)).symm ?_⟩
  obtain ⟨p1, p2⟩ := aDD l (by omega)
  unfold aIQ aFv
  refine ⟨p1, ?_⟩
  rw [p2]
  refine ⟨by have := aDC l; unfold mC; rw [aAz]; omega, ?_, ?_⟩
  ·simp only [List.length_cons, List.length_nil]; omega
  ·exact h
theorem L1 : Lst 1 .W1 112 114 kS := fun t ops x y Post h => by
 refine ⟨aHg, 0, cast (aVg 0 Post t ops x y).symm ?_⟩
 unfold aIP aFu
 refine ⟨trivial, ?_⟩
 unfold jB at h
 cases hb : (((kS ops).2 != 0) || ((kS ops).1 != t)) <;> rw [hb] at h <;> exact h
theorem L2 : Lst 2 .W2 113 115 jT := fun t ops x y Post h => by
 refine ⟨aHf, 0, cast (aVf 0 Post t ops x y).symm ?_⟩
 unfold aIO aFt
 refine ⟨trivial, ?_⟩
 unfold jB at h
 cases hb : (((jT ops).2 != 0) || ((jT ops).1 != t)) <;> rw [hb] at h <;> exact h
theorem L3 : Lst 3 .W3 116 117 kR := fun t ops x y Post h => by
 refine ⟨aHe, 0, cast (aVe 0 Post t ops x y).symm ?_⟩
 unfold aIN aFs
 refine ⟨trivial, ?_⟩
 unfold jB at h
 cases hb : (((kR ops).2 != 0) || ((kR ops).1 != t)) <;> rw [hb] at h <;> exact h
theorem A1 : aCK 1 .W1 112 114 := fun t Post Kc h1 h2 => by
 refine ⟨gH, 0, aE0, cast (aVd 0 Post _ t).symm ?_⟩
 unfold aIM aFr
 cases hb : decide (160000 < (t.size : Int)) with
 | true => exact h1 (of_decide_eq_true hb)
 | false => exact ⟨⟨tmP 1 t (fun _ => .any), obP .W1 112 114 0 0 []⟩, by kernel_rfl, h2 (of_decide_eq_false hb)⟩
theorem A2 : aCK 2 .W2 113 115 := fun t Post Kc h1 h2 => by
 refine ⟨gG, 0, aEZ, cast (aVc 0 Post _ t).symm ?_⟩
 unfold aIL aFq
 cases hb : decide (160000 < (t.size : Int)) with
 | true => exact h1 (of_decide_eq_true hb)
 | false => exact ⟨⟨tmP 2 t (fun _ => .any), obP .W2 113 115 0 0 []⟩, by kernel_rfl, h2 (of_decide_eq_false hb)⟩
theorem A3 : aCK 3 .W3 116 117 := fun t Post Kc h1 h2 => by
 refine ⟨gF, 0, aEY, cast (aVb 0 Post _ t).symm ?_⟩
 unfold aIK aFp
 cases hb : decide (160000 < (t.size : Int)) with
 | true => exact h1 (of_decide_eq_true hb)
 | false => exact ⟨⟨tmP 3 t (fun _ => .any), obP .W3 116 117 0 0 []⟩, by kernel_rfl, h2 (of_decide_eq_false hb)⟩
def gW (d : Int) (fo : List Opn → ByteArray × Int) (t : ByteArray) : List Opn × Int := if 160000 < (t.size : Int) then ([], 4) else jB fo t (dY d (dX t.data.toList)).1
theorem aTG {a : Act} {w : World} {R : Ending → World → Prop} {v : Value} (hd : a.defers = []) (hr : (results Tryz.f22 a.tmps).run Tryz.prog w = .ok v w) (hR : R (.returned v) w) : LeavesInM Fence.wide 10 Tryz.prog Tryz.f22 a.tmps R a.defers .returning w := by
 rw [hd]
 exact ⟨v, hr, hR⟩
theorem aDj (Dp : Dpk d fz f1 f2 fo) (hl : Lst d fz f1 f2 fo) (hp : aCK d fz f1 f2) (t : ByteArray) {w : World} {args : Array Value}
  (hi : inv2 w) (hN : ∀ b, N b → b < w.heap.size) (hargs : pR EE w N [.int .i64 d, .str t] args) :
  Calls Tryz.prog 22 args w (Res N w (jY (gW d fo t).1 (gW d fo t).2)) := by
 have hsat : eW bE w := zX.at (show bE.inv w from hi)
 refine callsIn_wide.1 (callsIn_of_wp_marks (F := Fence.wide) (n := 10) (c := p0) Tryz.func22 (by kernel_rfl) trivial (wpIn_wide.2 ?_))
 have hsz : args.size = 2 := hargs.1
 have hR : RR EE Tryz.f22.ntmps N (Fr.pure w) dG (bL [.int .i64 d, .str t]) { tmps := args ++ Array.replicate (Tryz.f22.ntmps - args.size) undef, defers := [] } w := by
  refine ⟨rfl, by rw [Array.size_append, Array.size_replicate, hsz]; rfl, fun t => ?_, (fun id ob ho => by cases ho), (fun id g u hr => by cases hr), (fun _ _ _ _ _ _ _ hr => by cases hr), Below.refl _ _, fun b hb => .inl (hN b hb), ⟨Nat.le_refl _, fun b hb => hb.elim⟩, (fun _ _ _ _ hr => by cases hr), (fun _ _ h => by cases h), by decide⟩
  exact aEk (fun _ => rfl) (by show 2 ≤ 55; decide) (by show 55 ≤ 1000000; decide) hsz (fun k hk => (hargs.2 k hk).mono (fun b hb => ⟨⟨hb.1, hb.2, fun _ _ _ hr => by cases hr⟩, rfl⟩) (fun _ _ _ hr => by cases hr)) t
 obtain ⟨M, F, mc, hex⟩ := hp t (fun r => r = jY (gW d fo t).1 (gW d fo t).2) (fun s' => ¬ 160000 < (t.size : Int) ∧ s' = ⟨tmP d t (fun _ => .any), obP fz f1 f2 0 0 []⟩) (fun h => by unfold gW; rw [if_pos h]) (fun h => ⟨h, rfl⟩)
 have hQ' : ∀ e s' ρ' a' w', e ≠ .normal → aT bE true Tryz.f22 (fun r => r = jY (gW d fo t).1 (gW d fo t).2) e s' → RR EE Tryz.f22.ntmps N (Fr.pure w) ρ' s' a' w' → bodyPostM Fence.wide 10 Tryz.prog Tryz.f22 (Res N w (jY (gW d fo t).1 (gW d fo t).2)) e.to a' w' := fun e s' ρ' a' w' hne hK hR' => by
  obtain ⟨v, r, h1, rfl, h2⟩ := aLo (N := N) (w0 := w) hK hR' rfl (fun _ h => h) hN
  rcases aLx hK with rfl | rfl
  ·exact absurd rfl hne
  ·exact aTG hR'.defers h1 ⟨v, rfl, h2, hR'.below⟩
 rw [aQN]
 refine qC (C := bE) (w0 := Fr.pure w) hsat mixed (fun _ _ _ _ _ h => by cases h) hex hR (fun s1 ρ1 a1 w1 h1 hR1 => ?_) (fun e s' ρ' a' w' hne hK hR' => hQ' e s' ρ' a' w' hne (by cases e <;> first | exact absurd rfl hne | exact hK) hR')
 refine qC (C := bE) (w0 := Fr.pure w) hsat mixed (fun _ _ _ _ _ h => by cases h) h1 hR1 (fun s2 ρ2 a2 w2 h2 hR2 => ?_) (fun e s' ρ' a' w' hne hK hR' => hQ' e s' ρ' a' w' hne (by cases e <;> first | exact absurd rfl hne | exact hK) hR')
 refine qC (C := bE) (w0 := Fr.pure w) hsat mixed (fun _ _ _ _ _ h => by cases h) h2 hR2 (fun s3 ρ3 a3 w3 h3 hR3 => ?_) (fun e s' ρ' a' w' hne hK hR' => hQ' e s' ρ' a' w' hne (by cases e <;> first | exact absurd rfl hne | exact hK) hR')
 refine qC (C := bE) (w0 := Fr.pure w) hsat mixed (fun _ _ _ _ _ h => by cases h) h3 hR3 (fun s4 ρ4 a4 w4 h4 hR4 => ?_) (fun e s' ρ' a' w' hne hK hR' => hQ' e s' ρ' a' w' hne (by cases e <;> first | exact absurd rfl hne | exact hK) hR')
 refine qC (C := bE) (w0 := Fr.pure w) hsat mixed (fun _ _ _ _ _ h => by cases h) h4 hR4 (fun s5 ρ5 a5 w5 h5 hR5 => ?_) (fun e s' ρ' a' w' hne hK hR' => hQ' e s' ρ' a' w' hne (by cases e <;> first | exact absurd rfl hne | exact hK) hR')
 refine wp_seq (uA (C := bE) (w0 := Fr.pure w) hsat mixed (fun _ _ _ _ _ h => by cases h) _ 0 s5 _ ρ5 a5 w5 _ h5 hR5 (fun e s' ρ' a' w' hK hR' => ?_))
 cases e with
 | exit id => exact hQ' (.exit id) s' ρ' a' w' (by simp) hK hR'
 | ret => exact hQ' .ret s' ρ' a' w' (by simp) hK hR'
 | normal =>
  show pz.wp Tryz.prog _ a' w'
  simp only [eL] at hK
  split at hK
  ·rename_i s'' hcan
   obtain ⟨s3', hcan2, hts, rfl⟩ := hK
   obtain ⟨ρ'', hR''⟩ := pQ hR' hcan (fun _ _ h => by cases h)
   obtain ⟨ρ3', hR3'⟩ := pQ hR'' hcan2 (fun _ _ h => by cases h)
   have e : gW d fo t = jB fo t (dY d (dX t.data.toList)).1 := by unfold gW; rw [if_neg hts]
   rw [e]
   exact aTA Dp hl hi hN (by omega) hR3'
  ·exact hK.elim
def kV (n : Int) (t : ByteArray) : List Opn × Int := if n = 1 then gW 1 kS t else if n = 2 then gW 2 jT t else if n = 3 then gW 3 kR t else ([], 1)
def aKU : Model UU
 | [.int .i64 n, .str t] => some ([True], jY (kV n t).1 (kV n t).2)
 | _ => none
def aHs : Cfg UU := bE.add 22 aKU
theorem aIl : cE aHs := by
 refine zX.put ⟨fun args w => gV (fn := Tryz.f22) Tryz.func22 (by kernel_rfl) rfl args w, ?_⟩
 intro N w args xs cs r hinv hN hargs hm hc
 unfold aKU at hm
 split at hm
 ·rename_i n t
  cases hm
  by_cases h1 : n = 1
  ·subst h1
   exact aDj B1 L1 A1 t hinv hN hargs
  by_cases h2 : n = 2
  ·subst h2
   exact aDj B2 L2 A2 t hinv hN hargs
  by_cases h3 : n = 3
  ·subst h3
   exact aDj B3 L3 A3 t hinv hN hargs
  have e : kV n t = ([], 1) := by unfold kV; rw [if_neg h1, if_neg h2, if_neg h3]
  rw [e]
  have fin : ∀ {M F}, exec bE Tryz.f22.ntmps M F 0 p0 (bL [.int .i64 n, .str t]) (aT bE true Tryz.f22 (fun r => r = jY [] 1)) → Calls Tryz.prog 22 args w fun e w' => ∃ v, e = .returned v ∧ fZ EE w.heap.size N w' (jY [] 1) v ∧ Below w.heap.size w w' := fun hex =>
   (aGh (C := bE) (w := w) (N := N) zX hinv mixed Tryz.func22 (by kernel_rfl) hN hargs (show 2 ≤ 55 by decide) (show 55 ≤ 1000000 by decide) hex).mono fun e w' ⟨v, he, ⟨r, hr, hf⟩, hb⟩ => ⟨v, he, hr ▸ hf, hb⟩
  rcases n with m | m
  ·rcases m with _ | _ | _ | _ | m
   ·exact fin (M := aHd) (F := 0) (cast (aVa 0 (fun r => r = jY [] 1) t).symm rfl)
   ·exact absurd rfl h1
   ·exact absurd rfl h2
   ·exact absurd rfl h3
   ·exact fin (M := aHc) (F := 0) (cast (aV9 0 (fun r => r = jY [] 1) m t).symm rfl)
  ·exact fin (M := aHb) (F := 0) (cast (aV8 0 (fun r => r = jY [] 1) m t).symm rfl)
 ·cases hm
end
end Go.Proofs.YteffpgliiilnjaaGreatDoor
namespace Go.Proofs.YteffpgliiilnjaaGreatDoor
open Go.Vm Go.RowKit
set_option linter.unusedVariables false
set_option maxRecDepth 100000
noncomputable section
def tY (n : Int) (ops : List Opn) : ByteArray × Int := if n = 1 then kS ops else if n = 2 then jT ops else if n = 3 then kR ops else (ByteArray.mk #[], 1)
def aKV : Model UU
 | [.int .i64 n, .sl .op ops] => some ([True], .tup [.str (tY n ops).1, .int .i64 (tY n ops).2])
 | _ => none
theorem aN4 : aHs.sum 20 = some aBG := by kernel_rfl
def yV : Cfg UU := aHs.add 20 aKV
theorem aPE : cE yV := by
 refine aIl.put ⟨fun args w => gV (fn := Tryz.f20) Tryz.func20 (by kernel_rfl) rfl args w, ?_⟩
 intro N w args xs cs r hinv hN hargs hm hc
 unfold aKV at hm
 split at hm
 ·rename_i n ops
  cases hm
  have key := fun xs cs r h1 h2 h3 => (aIl.1 20 aBG aN4).2 N w args xs cs r hinv hN h1 h2 h3
  by_cases h1 : n = 1
  ·subst h1
   exact key _ _ _ hargs rfl trivial
  by_cases h2 : n = 2
  ·subst h2
   exact key _ _ _ hargs rfl trivial
  by_cases h3 : n = 3
  ·subst h3
   exact key _ _ _ hargs rfl trivial
  have e : tY n ops = (ByteArray.mk #[], 1) := by unfold tY; rw [if_neg h1, if_neg h2, if_neg h3]
  rw [e]
  rcases n with m | m
  ·rcases m with _ | _ | _ | _ | m
   ·exact key _ _ _ hargs rfl trivial
   ·exact absurd rfl h1
   ·exact absurd rfl h2
   ·exact absurd rfl h3
   ·exact key _ _ _ hargs rfl trivial
  ·exact key _ _ _ hargs rfl trivial
 ·cases hm
def aHM : Nat → Nat → Nat → Canon UU := fun o b r => ⟨[], [], [], [], []⟩
def aFT (a0 : Int) (a1 : List Opn) (a2 : ByteArray) (Q : Bool → Prop) : Prop := (let r0 := (tY a0 a1); ((True) ∧ (let r1 := (eB a0 a1); ((aAg a0 a1) ∧ (let r2 := (kV a0 a2); ((True) ∧ (let r3 := (mH a0 a2); ((aD8 a0 a2) ∧ (((((r0.1 != r1.1) || (r0.2 != r1.2)) || (r2.2 != r3.2)) = false → aAf r2.1 r3.1) ∧ cond ((((r0.1 != r1.1) || (r0.2 != r1.2)) || (r2.2 != r3.2)) || (!(vU r2.1 r3.1))) (Q false) (cond ((r0.2 == 0) && (decide ((r0.1.size : Int) ≤ 160000))) ((let r4 := (kV a0 r0.1); ((True) ∧ (((r4.2 != 0) = false → aAf r4.1 a1) ∧ cond ((r4.2 != 0) || (!(vU r4.1 a1))) (Q false) (Q aAW))))) (Q aAW)))))))))))
def aCa (F : Nat) (a0 : Int) (a1 : List Opn) (a2 : ByteArray) (Q : Bool → Prop) : Prop := aFT a0 a1 a2 Q
theorem in3 {d : Int} (hd : d = 1 ∨ d = 2 ∨ d = 3) : ¬ ((decide (d < 1)) || (decide (3 < d))) = true := by
 rcases hd with rfl | rfl | rfl <;> decide
theorem aDm {d : Int} (hd : ¬ (d = 1 ∨ d = 2 ∨ d = 3)) : ((decide (d < 1)) || (decide (3 < d))) = true := by
 simp only [Bool.or_eq_true, decide_eq_true_eq]
 omega
theorem aOR (d : Int) (ops : List Opn) : tY d ops = eB d ops := by
 unfold tY
 by_cases h1 : d = 1
 ·subst h1
  rw [if_pos rfl, aLh]
 by_cases h2 : d = 2
 ·subst h2
  rw [if_neg h1, if_pos rfl, aLg]
 by_cases h3 : d = 3
 ·subst h3
  rw [if_neg h1, if_neg h2, if_pos rfl, aLf]
 rw [if_neg h1, if_neg h2, if_neg h3]
 unfold eB
 rw [aDm (by rintro (h | h | h) <;> contradiction)]
 rfl
theorem aP0 {d : Int} (hd : d = 1 ∨ d = 2 ∨ d = 3) (t : ByteArray) (ops : List Opn) : jB (eB d) t ops = if iH d ops = some t.data.toList then (ops, 0) else ([], 3) := by
 obtain ⟨f1, f2⟩ := aGR (in3 hd) ops
 unfold jB
 cases hw : iH d ops with
 | none =>
  have h := f2 hw
  rw [show ((eB d ops).2 != 0 || (eB d ops).1 != t) = true by rw [Bool.or_eq_true]; exact .inl (bne_iff_ne.2 h), if_neg (by simp)]
  rfl
 | some u =>
  rw [f1 u hw]
  by_cases hu : u = t.data.toList
  ·rw [if_pos (by rw [hu])]
   have e : eA u = t := by
    rw [hu]
    exact aSP t
   have hb : (eA u != t) = false := by
    rw [Bool.eq_false_iff]
    exact fun q => rE.1 q e
   simp only [hb]
   rfl
  ·rw [if_neg (fun q => hu (Option.some.inj q))]
   have hb : (eA u != t) = true := rE.2 (fun q => hu (by rw [← q]; rfl))
   simp only [hb]
   rfl
theorem aIq {d : Int} (hd : d = 1 ∨ d = 2 ∨ d = 3) {fo : List Opn → ByteArray × Int} (hf : fo = eB d) {t : ByteArray} (ht : ¬ 160000 < (t.size : Int)) : gW d fo t = qJ (iH d) (kJ d) t.data.toList := by
 subst hf
 unfold gW qJ
 rw [if_neg ht, aP0 hd, aPU hd]
theorem aDk {d : Int} (hd : d = 1 ∨ d = 2 ∨ d = 3) (t : ByteArray) : kV d t = gW d (eB d) t := by
 unfold kV
 rcases hd with rfl | rfl | rfl
 ·rw [if_pos rfl, show kS = eB 1 from funext fun ops => (aLh ops).symm]
 ·rw [if_neg (by decide), if_pos rfl, show jT = eB 2 from funext fun ops => (aLg ops).symm]
 ·rw [if_neg (by decide), if_neg (by decide), if_pos rfl, show kR = eB 3 from funext fun ops => (aLf ops).symm]
theorem aQK (d : Int) (t : ByteArray) : kV d t = mH d t := by
 by_cases hd : d = 1 ∨ d = 2 ∨ d = 3
 ·rw [aDk hd]
  by_cases ht : 160000 < (t.size : Int)
  ·unfold gW mH
   have h' : ((decide (d < 1)) || (decide (3 < d))) = false := by simpa using in3 hd
   rw [if_pos ht, h', decide_eq_true ht]
   rfl
  ·rw [aIq hd rfl ht, aQM (in3 hd) ht, aQI hd]
 ·unfold kV mH
  rw [aDm hd, if_neg (fun h => hd (.inl h)), if_neg (fun h => hd (.inr (.inl h))), if_neg (fun h => hd (.inr (.inr h)))]
  rfl
theorem aJJ (d : Int) (t : ByteArray) : (kV d t).1.length ≤ 1000000 := by
 by_cases hd : d = 1 ∨ d = 2 ∨ d = 3
 ·rw [aDk hd]
  unfold gW
  by_cases ht : 160000 < (t.size : Int)
  ·rw [if_pos ht]
   simp
  ·rw [if_neg ht]
   unfold jB
   have h1 := aIm d (dX t.data.toList)
   have h2 := aK7 t.data.toList
   have h3 : t.data.toList.length = t.size := by rw [Array.length_toList]; rfl
   cases ((eB d (dY d (dX t.data.toList)).1).2 != 0 || (eB d (dY d (dX t.data.toList)).1).1 != t) with
   | true => simp
   | false => show (dY d (dX t.data.toList)).1.length ≤ 1000000; omega
 ·unfold kV
  rw [if_neg (fun h => hd (.inl h)), if_neg (fun h => hd (.inr (.inl h))), if_neg (fun h => hd (.inr (.inr h)))]
  simp
theorem aZ4 {d : Int} {ops : List Opn} (h0 : (eB d ops).2 = 0) (hs : ((eB d ops).1.size : Int) ≤ 160000) : kV d (eB d ops).1 = (ops, 0) := by
 by_cases hd : d = 1 ∨ d = 2 ∨ d = 3
 ·obtain ⟨f1, f2⟩ := aGR (in3 hd) ops
  cases hw : iH d ops with
  | none => exact absurd h0 (f2 hw)
  | some u =>
   have e := f1 u hw
   rw [e] at hs ⊢
   rw [aDk hd, aIq hd rfl (by omega)]
   exact aQL hd hw
 ·unfold eB at h0
  rw [aDm hd] at h0
  cases h0
theorem aT0 (d : Int) (ops : List Opn) (t : ByteArray) : aCa 1 d ops t (fun r => r = true) := by
 unfold aCa aFT
 rw [aOR, ← aQK]
 have hself : ∀ l : List Opn, vU l l = true := fun l => uB.2 rfl
 have hb : ((eB d ops).1 != (eB d ops).1) = false := by
  rw [Bool.eq_false_iff]
  exact fun q => rE.1 q rfl
 refine ⟨trivial, trivial, trivial, trivial, fun _ => aJJ d t, ?_⟩
 rw [hself, hb, bne_self_eq_false, bne_self_eq_false]
 show cond _ _ _
 cases hc : ((eB d ops).2 == 0 && decide (((eB d ops).1.size : Int) ≤ 160000)) with
 | false => rfl
 | true =>
  rw [Bool.and_eq_true] at hc
  have hbk := aZ4 (eq_of_beq hc.1) (of_decide_eq_true hc.2)
  refine ⟨trivial, fun _ => aJJ d _, ?_⟩
  rw [hbk, hself]
  rfl
set_option maxRecDepth 100000
theorem aWZ (F : Nat) (Post : aA UU → Prop) (a0 : Int) (a1 : List Opn) (a2 : ByteArray) : exec yV Tryz.f6.ntmps aHM F 0 (bo Tryz.f6) (bL [.int .i64 a0, .sl .op a1, .str a2]) (aT yV false Tryz.f6 Post) = aFT a0 a1 a2 (fun r0 => Post (.bool r0)) := by kernel_rfl
theorem aVC (F : Nat) (Post : aA UU → Prop) (a0 : Int) (a1 : List Opn) (a2 : ByteArray) : exec yV Tryz.f6.ntmps aHM F 0 (bo Tryz.f6) (bL [.int .i64 a0, .sl .op a1, .str a2]) (aT yV false Tryz.f6 Post) = aCa F a0 a1 a2 (fun r0 => Post (.bool r0)) := by
 rw [aWZ]
 rfl
end
end Go.Proofs.YteffpgliiilnjaaGreatDoor
