/- That ProgramPrefix returns true for all inputs, and the tied card. Conditions: none. -/
import Derived.Test.YteffpgliiilnjaaGreatDoorMP4
import Derived.WalkKit
import Derived.LaidEql
import Derived.RowKitTokens
import Derived.Test.YteffpgliiilnjaaGreatDoorMP5
import Derived.Deep.RegionHeld3
import Derived.Shelf.SlSortCmp.QuietGrown
import Derived.Ground.SlsfProg
import Derived.Shelf.SlSortCmp.NoneTotal
import Derived.Test.YteffpgliiilnjaaGreatDoorProg
import Derived.Lib.OwnBridge
import Derived.Test.YteffpgliiilnjaaGreatDoorMP6
import Derived.Test.YteffpgliiilnjaaGreatDoorCards
import Derived.Test.YteffpgliiilnjaaGreatDoorTie
import Derived.SevenTiedAt
namespace Go.Proofs
open Go.RowKit Go.Extern
theorem Tryz.valueOf165 (t : Addr) (w : World) : (ReflectliteValue.unpack (.iface 165 (.pointer (some t)))).run Tryz.prog w
    = .ok (.agg #[.pointer (some ⟨9, 165, none⟩), .pointer (some ⟨w.heap.size, 0, none⟩), .int .u64 150]) (w.alloc (.cells #[.pointer (some t)] 165)) := by kernel_rfl
theorem Tryz.rtype165 (a : Addr) (w : World) : (ReflectliteValue.methodAny (ReflectliteValue.valueError "reflectlite.Value.Type" 0) (fun t _ _ _ => ReflectliteType.toType t) #[.agg #[.pointer (some ⟨9, 165, none⟩), .pointer (some a), .int .u64 150]]).run Tryz.prog w
    = .ok (.iface 244 (.agg #[.pointer (some ⟨9, 165, none⟩)])) w := by kernel_rfl
theorem Tryz.methodKind (h : Value) (w : World) : (Go.method 453 244 (.agg #[h]) "Kind").run Tryz.prog w = .ok (263, h) w := by kernel_rfl
theorem Tryz.kind165 (w : World) : ((ReflectliteType.abiMethod fun t => (fun a : Nat => Value.int IntKind.u8 (a : Int)) <$> Rtype.kind t) #[.pointer (some ⟨9, 165, none⟩)]).run Tryz.prog w = .ok (.int .u8 22) w := by kernel_rfl
theorem Tryz.kind161 (w : World) : ((ReflectliteType.abiMethod fun t => (fun a : Nat => Value.int IntKind.u8 (a : Int)) <$> Rtype.kind t) #[.pointer (some ⟨9, 161, none⟩)]).run Tryz.prog w = .ok (.int .u8 25) w := by kernel_rfl
theorem rlm (z : Sem Value) (f : TypeId → Addr → Nat → Nat → Sem Value) (v : Value) :
    ReflectliteValue.method z f #[v] = (do match ← ReflectliteValue.parts v with | none => z | some (t, a, fl) => f t a fl (fl % 32)) := rfl
theorem Tryz.parts165 (a : Addr) (w : World) : (ReflectliteValue.parts (.agg #[.pointer (some ⟨9, 165, none⟩), .pointer (some a), .int .u64 150])).run Tryz.prog w = .ok (some (165, a, 150)) w := by kernel_rfl
theorem Tryz.isNil165 (a p : Addr) (W : World) (ha : W.cell? a = some (.pointer (some p))) :
    (ReflectliteValue.method (ReflectliteValue.valueError "reflectlite.Value.IsNil" 0) ReflectliteValue.isNil #[.agg #[.pointer (some ⟨9, 165, none⟩), .pointer (some a), .int .u64 150]]).run Tryz.prog W = .ok (.bool false) W := by
  rw [rlm]
  simp only [Sem.run_bind, Tryz.parts165, Result.andThen]
  simp [ReflectliteValue.isNil, loadVar, isAgg, underlying, Tryz.underlying165, ha, Result.andThen]
theorem Tryz.methodElem (h : Value) (w : World) : (Go.method 453 244 (.agg #[h]) "Elem").run Tryz.prog w = .ok (274, .agg #[h]) w := by kernel_rfl
theorem Tryz.methodImplements (h : Value) (w : World) : (Go.method 453 244 (.agg #[h]) "Implements").run Tryz.prog w = .ok (275, .agg #[h]) w := by kernel_rfl
theorem Tryz.methodAssignableTo (h : Value) (w : World) : (Go.method 453 244 (.agg #[h]) "AssignableTo").run Tryz.prog w = .ok (272, .agg #[h]) w := by kernel_rfl
theorem Tryz.elem165 (w : World) : (ReflectliteType.method ReflectliteType.elem #[.agg #[.pointer (some ⟨9, 165, none⟩)]]).run Tryz.prog w = .ok (.iface 244 (.agg #[.pointer (some ⟨9, 161, none⟩)])) w := by kernel_rfl
theorem Tryz.implements161 (w : World) : (ReflectliteType.relation "Implements" ReflectliteType.implements_ #[.agg #[.pointer (some ⟨9, 161, none⟩)], .iface 244 (.agg #[.pointer (some ⟨9, 73, none⟩)])]).run Tryz.prog w = .ok (.bool true) w := by kernel_rfl
theorem Tryz.typeOf161 (v : Value) (w : World) : (ReflectliteType.typeOf #[.iface 161 v]).run Tryz.prog w = .ok (.iface 244 (.agg #[.pointer (some ⟨9, 161, none⟩)])) w := by kernel_rfl
theorem Tryz.assignable161 (w : World) : (ReflectliteType.relation "AssignableTo" ReflectliteType.assignableTo #[.agg #[.pointer (some ⟨9, 161, none⟩)], .iface 244 (.agg #[.pointer (some ⟨9, 161, none⟩)])]).run Tryz.prog w = .ok (.bool true) w := by kernel_rfl
theorem Tryz.valueOf161 (n : Int) (w : World) : (ReflectliteValue.unpack (.iface 161 (.agg #[.int .i64 n]))).run Tryz.prog w
    = .ok (.agg #[.pointer (some ⟨9, 161, none⟩), .pointer (some ⟨w.heap.size, 0, none⟩), .int .u64 153]) (w.alloc (.cells #[.int .i64 n] 161)) := by kernel_rfl
theorem Tryz.elemOf165 (w : World) : (Rtype.elem? 165).run Tryz.prog w = .ok (some 161) w := by kernel_rfl
theorem Tryz.mk161 (p : Addr) (w : World) : (ReflectliteValue.mk 161 p ReflectliteValue.flagAddr).run Tryz.prog w = .ok (.agg #[.pointer (some ⟨9, 161, none⟩), .pointer (some p), .int .u64 409]) w := by kernel_rfl
theorem Tryz.elemV165 (a p : Addr) (W : World) (ha : W.cell? a = some (.pointer (some p))) :
    (ReflectliteValue.method (ReflectliteValue.valueError "reflectlite.Value.Elem" 0) ReflectliteValue.elem #[.agg #[.pointer (some ⟨9, 165, none⟩), .pointer (some a), .int .u64 150]]).run Tryz.prog W
      = .ok (.agg #[.pointer (some ⟨9, 161, none⟩), .pointer (some p), .int .u64 409]) W := by
  rw [rlm]
  simp only [Sem.run_bind, Tryz.parts165, Result.andThen]
  simp [ReflectliteValue.elem, loadVar, isAgg, underlying, Tryz.underlying165, ha, Result.andThen, Tryz.elemOf165, Tryz.mk161]
theorem rls (v x : Value) : ReflectliteValue.set #[v, x] = (do
    let (some (dst, a, fl), some (src, b, _)) := (← ReflectliteValue.parts v, ← ReflectliteValue.parts x)
      | unsupported (.noEntry "extern/(internal/reflectlite.Value).Set.zeroValue")
    if fl / ReflectliteValue.flagAddr % 2 == 0 then unsupported (.noEntry "extern/(internal/reflectlite.Value).Set.unaddressable")
    let val ← loadVar src b
    if ← Rtype.directlyAssignable dst src then storeVar dst a val
    else if ← Rtype.implements dst src then
      if (← Rtype.kind src) == 20 then
        match val with
        | .nilIface => unsupported (.noEntry "extern/reflectlite: a nil value of one interface type handed on as a value of another")
        | _ => storeVar dst a val
      else storeVar dst a (.iface src val)
    else panicString ("reflectlite.Set: value of type " ++ (← Rtype.spelt src) ++ " is not assignable to type " ++ (← Rtype.spelt dst))
    pure (.tuple #[])) := rfl
theorem Tryz.parts161a (a : Addr) (w : World) : (ReflectliteValue.parts (.agg #[.pointer (some ⟨9, 161, none⟩), .pointer (some a), .int .u64 409])).run Tryz.prog w = .ok (some (161, a, 409)) w := by kernel_rfl
theorem Tryz.parts161 (a : Addr) (w : World) : (ReflectliteValue.parts (.agg #[.pointer (some ⟨9, 161, none⟩), .pointer (some a), .int .u64 153])).run Tryz.prog w = .ok (some (161, a, 153)) w := by kernel_rfl
theorem Tryz.direct161 (w : World) : (Rtype.directlyAssignable 161 161).run Tryz.prog w = .ok true w := by kernel_rfl
theorem Tryz.size161 (w : World) : (sizeOf 161).run Tryz.prog w = .ok 1 w := by kernel_rfl
theorem Tryz.set161 (ta b : Addr) (n : Int) (old : Value) (W : World) (hb : W.cell? b = some (.int .i64 n)) (ht : W.cell? ta = some old) (hf : W.frozen? ta = false) :
    (ReflectliteValue.set #[.agg #[.pointer (some ⟨9, 161, none⟩), .pointer (some ta), .int .u64 409], .agg #[.pointer (some ⟨9, 161, none⟩), .pointer (some b), .int .u64 153]]).run Tryz.prog W
      = .ok (.tuple #[]) (W.setCell ta (.int .i64 n)) := by
  have hl : (loadVar 161 b).run Tryz.prog W = .ok (.agg #[.int .i64 n]) W := by
    simp [loadVar, isAgg, underlying, Tryz.underlying161, Result.andThen, loadCells, loadCellsFrom, hb, Addr.add]
  rw [rls]
  simp only [Sem.run_bind, Tryz.parts161a, Tryz.parts161, Result.andThen]
  simp only [ReflectliteValue.flagAddr]
  simp [hl, Result.andThen, Tryz.direct161, storeVar, Value.cells, storeCells, Addr.add]
  rw [run_store Tryz.prog W ta _ _ (by rfl)]
  simp [ht, hf]
end Go.Proofs

namespace Go.Proofs
open Go.RowKit Go.Extern
set_option linter.unusedVariables false

set_option maxHeartbeats 4000000 in
set_option maxRecDepth 100000 in
theorem Tryz.as_hit (n : Int) (t b : Addr) (old : Value) (w : World) (hb : w.cell? b = some (.pointer (some t))) (ht0 : w.cell? t = some old) (hf0 : w.frozen? t = false) :
    Calls Tryz.prog 137 #[.iface 161 (.agg #[.int .i64 n]), .iface 165 (.pointer (some t)), .agg #[.pointer (some ⟨9, 165, none⟩), .pointer (some b), .int .u64 150], .iface 244 (.agg #[.pointer (some ⟨9, 161, none⟩)])] w fun ev w' => ev = .returned (.bool true) ∧ w' = ((w.alloc (.cells #[.pointer (some ⟨9, 165, none⟩), .pointer (some b), .int .u64 150] 208)).alloc (.cells #[.int .i64 n] 161)).setCell t (.int .i64 n) := by
  have h10 := @run_callFunc_extern Tryz.prog 171 _ ReflectliteType.typeOf Tryz.func171 (by kernel_rfl) (by kernel_rfl) (by kernel_rfl) (by kernel_rfl)
  have h35 := @run_callFunc_extern Tryz.prog 272 _ (ReflectliteType.relation "AssignableTo" ReflectliteType.assignableTo) Tryz.func272 (by kernel_rfl) (by kernel_rfl) (by kernel_rfl) (by kernel_rfl)
  have h11 := @run_callFunc_extern Tryz.prog 172 _ (ReflectliteValue.method (ReflectliteValue.valueError "reflectlite.Value.Elem" 0) ReflectliteValue.elem) Tryz.func172 (by kernel_rfl) (by kernel_rfl) (by kernel_rfl) (by kernel_rfl)
  have h6 := @run_callFunc_extern Tryz.prog 134 _ (fun args => ReflectliteValue.unpack (args.getD 0 (.tuple #[]))) Tryz.func134 (by kernel_rfl) (by kernel_rfl) (by kernel_rfl) (by kernel_rfl)
  have h12 := @run_callFunc_extern Tryz.prog 173 _ ReflectliteValue.set Tryz.func173 (by kernel_rfl) (by kernel_rfl) (by kernel_rfl) (by kernel_rfl)
  have tO := Tryz.typeOf161
  have mA := Tryz.methodAssignableTo
  have a25 := Tryz.assignable161
  have v25 := Tryz.valueOf161
  have htl : t.block < w.heap.size := by
    rcases Nat.lt_or_ge t.block w.heap.size with h | h
    · exact h
    · simp [World.cell?, Array.getElem?_eq_none h] at ht0
  have hbl : b.block < w.heap.size := by
    rcases Nat.lt_or_ge b.block w.heap.size with h | h
    · exact h
    · simp [World.cell?, Array.getElem?_eq_none h] at hb
  have el := Tryz.elemV165 b t (w.alloc (.cells #[.pointer (some ⟨9, 165, none⟩), .pointer (some b), .int .u64 150] 208)) (by rw [World.cell?_alloc_lt _ _ b hbl]; exact hb)
  have st := Tryz.set161 t ⟨w.heap.size + 1, 0, none⟩ n old ((w.alloc (.cells #[.pointer (some ⟨9, 165, none⟩), .pointer (some b), .int .u64 150] 208)).alloc (.cells #[.int .i64 n] 161))
    (by rw [World.cell?_alloc_at _ _ _ _ (by simp)]; rfl)
    (by rw [World.cell?_alloc_lt _ _ t (by simp; omega), World.cell?_alloc_lt _ _ t htl]; exact ht0)
    (by rw [World.frozen?_alloc_old _ _ t (by simp; omega), World.frozen?_alloc_old _ _ t (Nat.ne_of_lt htl)]; exact hf0)
  go_enter Tryz.func137, Tryz.ntmps137
  go_wp2
  refine wp_loop_rounds 1 ?_
  rw [rounds_succ]
  go_wp2
  go_ret
  exact ⟨rfl, rfl⟩

set_option maxHeartbeats 4000000 in
set_option maxRecDepth 100000 in
theorem Tryz.errors_As (n : Int) (t : Addr) (old : Value) (w : World) (hg : w.cell? ⟨0, 0, none⟩ = some (.iface 244 (.agg #[.pointer (some ⟨9, 73, none⟩)]))) (ht0 : w.cell? t = some old) (hf0 : w.frozen? t = false) :
    Calls Tryz.prog 86 #[.iface 161 (.agg #[.int .i64 n]), .iface 165 (.pointer (some t))] w fun ev w' => ev = .returned (.bool true) ∧ w' = ((((w.alloc (.cells #[.pointer (some t)] 165)).alloc (.cells #[.pointer (some ⟨9, 165, none⟩), .pointer (some ⟨w.heap.size, 0, none⟩), .int .u64 150] 208)).alloc (.cells #[.pointer (some ⟨9, 165, none⟩), .pointer (some ⟨w.heap.size, 0, none⟩), .int .u64 150] 208)).alloc (.cells #[.int .i64 n] 161)).setCell t (.int .i64 n) := by
  have h6 := @run_callFunc_extern Tryz.prog 134 _ (fun args => ReflectliteValue.unpack (args.getD 0 (.tuple #[]))) Tryz.func134 (by kernel_rfl) (by kernel_rfl) (by kernel_rfl) (by kernel_rfl)
  have h7 := @run_callFunc_extern Tryz.prog 135 _ (ReflectliteValue.methodAny (ReflectliteValue.valueError "reflectlite.Value.Type" 0) (fun t _ _ _ => ReflectliteType.toType t)) Tryz.func135 (by kernel_rfl) (by kernel_rfl) (by kernel_rfl) (by kernel_rfl)
  have h8 := @run_callFunc_extern Tryz.prog 136 _ (ReflectliteValue.method (ReflectliteValue.valueError "reflectlite.Value.IsNil" 0) ReflectliteValue.isNil) Tryz.func136 (by kernel_rfl) (by kernel_rfl) (by kernel_rfl) (by kernel_rfl)
  have h27 := @run_callFunc_extern Tryz.prog 263 _ (ReflectliteType.abiMethod fun t => do pure (.int .u8 (← Rtype.kind t))) Tryz.func263 (by kernel_rfl) (by kernel_rfl) (by kernel_rfl) (by kernel_rfl)
  have h37 := @run_callFunc_extern Tryz.prog 274 _ (ReflectliteType.method ReflectliteType.elem) Tryz.func274 (by kernel_rfl) (by kernel_rfl) (by kernel_rfl) (by kernel_rfl)
  have h38 := @run_callFunc_extern Tryz.prog 275 _ (ReflectliteType.relation "Implements" ReflectliteType.implements_) Tryz.func275 (by kernel_rfl) (by kernel_rfl) (by kernel_rfl) (by kernel_rfl)
  have f6 := Tryz.valueOf165
  have f7 := Tryz.rtype165
  have mK := Tryz.methodKind
  have mE := Tryz.methodElem
  have mI := Tryz.methodImplements
  have k27 := Tryz.kind165
  have k25 := Tryz.kind161
  have e27 := Tryz.elem165
  have i25 := Tryz.implements161
  have hlt : 0 < w.heap.size := by
    rcases Nat.eq_zero_or_pos w.heap.size with h0 | h
    · simp [World.cell?, h0] at hg
    · exact h
  have htl : t.block < w.heap.size := by
    rcases Nat.lt_or_ge t.block w.heap.size with h | h
    · exact h
    · simp [World.cell?, Array.getElem?_eq_none h] at ht0
  have n8 := Tryz.isNil165 ⟨w.heap.size, 0, none⟩ t ((w.alloc (.cells #[.pointer (some t)] 165)).alloc (.cells #[.pointer (some ⟨9, 165, none⟩), .pointer (some ⟨w.heap.size, 0, none⟩), .int .u64 150] 208)) (by simp)
  have hg2 : ((w.alloc (.cells #[.pointer (some t)] 165)).alloc (.cells #[.pointer (some ⟨9, 165, none⟩), .pointer (some ⟨w.heap.size, 0, none⟩), .int .u64 150] 208)).cell? ⟨0, 0, none⟩ = some (.iface 244 (.agg #[.pointer (some ⟨9, 73, none⟩)])) := by
    rw [World.cell?_alloc_lt _ _ ⟨0, 0, none⟩ (by simp), World.cell?_alloc_lt _ _ ⟨0, 0, none⟩ hlt]; exact hg
  have hA := Tryz.as_hit n t ⟨w.heap.size, 0, none⟩ old ((w.alloc (.cells #[.pointer (some t)] 165)).alloc (.cells #[.pointer (some ⟨9, 165, none⟩), .pointer (some ⟨w.heap.size, 0, none⟩), .int .u64 150] 208)) (by simp)
    (by rw [World.cell?_alloc_lt _ _ t (by simp; omega), World.cell?_alloc_lt _ _ t htl]; exact ht0)
    (by rw [World.frozen?_alloc_old _ _ t (by simp; omega), World.frozen?_alloc_old _ _ t (Nat.ne_of_lt htl)]; exact hf0)
  clear hg
  go_enter Tryz.func86, Tryz.ntmps86
  go_wp2_with (go_at_call 137; refine hA.mono ?_; rintro e w' ⟨rfl, rfl⟩)
  go_ret
  exact ⟨rfl, rfl⟩
end Go.Proofs

namespace Go.Proofs
open Go.RowKit Go.Sort Go.Proofs.YteffpgliiilnjaaGreatDoor
set_option linter.unusedVariables false

theorem Tryz.isNaN_int (x : Int) (w : World) : Calls Tryz.prog 184 #[.int .i64 x] w fun e w' => e = .returned (.bool false) ∧ w' = w := by
  go_enter Tryz.func184, Tryz.ntmps184
  go_wp2
  go_ret
  exact ⟨rfl, rfl⟩
theorem Tryz.compare_int (x y : Int) (w : World) : Calls Tryz.prog 141 #[.int .i64 x, .int .i64 y] w fun e w' => e = .returned (.int .i64 (Lib.compareInt x y)) ∧ w' = w := by
  have h := fun x => Tryz.isNaN_int x w
  unfold Lib.compareInt
  by_cases h1 : x < y
  · have h1' : decide (x < y) = true := by simpa using h1
    rw [if_pos h1]
    go_enter Tryz.func141, Tryz.ntmps141
    go_wp2_with (go_at_call 184; refine (h _).mono ?_; rintro e w' ⟨rfl, rfl⟩)
    go_ret
    exact ⟨rfl, rfl⟩
  · have h1' : decide (x < y) = false := by simpa using h1
    rw [if_neg h1]
    by_cases h2 : y < x
    · have h2' : decide (y < x) = true := by simpa using h2
      rw [if_pos h2]
      go_enter Tryz.func141, Tryz.ntmps141
      go_wp2_with (go_at_call 184; refine (h _).mono ?_; rintro e w' ⟨rfl, rfl⟩)
      go_ret
      exact ⟨rfl, rfl⟩
    · have h2' : decide (y < x) = false := by simpa using h2
      rw [if_neg h2]
      go_enter Tryz.func141, Tryz.ntmps141
      go_wp2_with (go_at_call 184; refine (h _).mono ?_; rintro e w' ⟨rfl, rfl⟩)
      go_ret
      exact ⟨rfl, rfl⟩
theorem Tryz.or_int (b : Nat) (x y z : Int) (w : World) (hx : w.cell? ⟨b, 0, none⟩ = some (.int .i64 x)) (hy : w.cell? ⟨b, 1, none⟩ = some (.int .i64 y)) (hz : w.cell? ⟨b, 2, none⟩ = some (.int .i64 z)) :
    Calls Tryz.prog 140 #[.slice (some ⟨b, 0, none⟩) 3 3] w fun e w' => e = .returned (.int .i64 (or3 x y z)) ∧ w' = w := by
  unfold or3
  by_cases h1 : x = 0
  · subst h1
    rw [if_neg (by simp)]
    by_cases h2 : y = 0
    · subst h2
      rw [if_neg (by simp)]
      by_cases h3 : z = 0
      · subst h3
        go_enter Tryz.func140, Tryz.ntmps140
        go_wp2
        refine wp_loop_rounds 4 ?_
        iterate 4 (rw [rounds_succ]; go_wp2)
        go_ret
        exact ⟨rfl, rfl⟩
      · go_enter Tryz.func140, Tryz.ntmps140
        go_wp2
        refine wp_loop_rounds 3 ?_
        iterate 3 (rw [rounds_succ]; go_wp2)
        go_ret
        exact ⟨rfl, rfl⟩
    · rw [if_pos h2]
      go_enter Tryz.func140, Tryz.ntmps140
      go_wp2
      refine wp_loop_rounds 2 ?_
      iterate 2 (rw [rounds_succ]; go_wp2)
      go_ret
      exact ⟨rfl, rfl⟩
  · rw [if_pos h1]
    go_enter Tryz.func140, Tryz.ntmps140
    go_wp2
    refine wp_loop_rounds 1 ?_
    rw [rounds_succ]
    go_wp2
    go_ret
    exact ⟨rfl, rfl⟩
end Go.Proofs

namespace Go.Proofs
open Go.RowKit Go.Sort Go.Proofs.YteffpgliiilnjaaGreatDoor
set_option linter.unusedVariables false

def encS (s : Seg) : List Value := [.int .i64 s.X1, .int .i64 s.Y1, .int .i64 s.X2, .int .i64 s.Y2]
theorem alloc_as_grow (w : World) (o : Obj) : w.alloc o = grow w #[o] := rfl
set_option maxHeartbeats 4000000 in
set_option maxRecDepth 100000 in
theorem Tryz.orderLines_lt (ax ay ax2 ay2 bx by_ bx2 by2 : Int) (w : World) (h1 : ay = ay2) (h2 : ¬ by_ = by2) : Calls Tryz.prog 89 #[.agg #[.int .i64 ax, .int .i64 ay, .int .i64 ax2, .int .i64 ay2], .agg #[.int .i64 bx, .int .i64 by_, .int .i64 bx2, .int .i64 by2]] w fun e w' => e = .returned (.int .i64 (-1)) ∧ ∃ q os, w' = grow (w.drewN q) os := by
  have e1 : (ay == ay2) = true := by simpa using h1
  have e2 : (by_ == by2) = false := by simpa using h2
  clear h1 h2
  go_enter Tryz.func89, Tryz.ntmps89
  go_wp2
  go_region_held3 (fun w' => w'.cell? ⟨w.heap.size, 0, none⟩ = some (.int .i64 ax) ∧ w'.cell? ⟨w.heap.size, 1, none⟩ = some (.int .i64 ay) ∧ w'.cell? ⟨w.heap.size, 2, none⟩ = some (.int .i64 ax2) ∧ w'.cell? ⟨w.heap.size, 3, none⟩ = some (.int .i64 ay2) ∧ w'.cell? ⟨w.heap.size + 1, 0, none⟩ = some (.int .i64 bx) ∧ w'.cell? ⟨w.heap.size + 1, 1, none⟩ = some (.int .i64 by_) ∧ w'.cell? ⟨w.heap.size + 1, 2, none⟩ = some (.int .i64 bx2) ∧ w'.cell? ⟨w.heap.size + 1, 3, none⟩ = some (.int .i64 by2)) (go_keep) (fail)
  all_goals go_wp2
  all_goals go_ret
  all_goals exact ⟨rfl, _, _, by rw [alloc_as_grow, alloc_as_grow, grow_grow, drew_grow]; rfl⟩
set_option maxHeartbeats 4000000 in
set_option maxRecDepth 100000 in
theorem Tryz.orderLines_gt (ax ay ax2 ay2 bx by_ bx2 by2 : Int) (w : World) (h1 : ¬ ay = ay2) (h2 : by_ = by2) : Calls Tryz.prog 89 #[.agg #[.int .i64 ax, .int .i64 ay, .int .i64 ax2, .int .i64 ay2], .agg #[.int .i64 bx, .int .i64 by_, .int .i64 bx2, .int .i64 by2]] w fun e w' => e = .returned (.int .i64 (1)) ∧ ∃ q os, w' = grow (w.drewN q) os := by
  have e1 : (ay == ay2) = false := by simpa using h1
  have e2 : (by_ == by2) = true := by simpa using h2
  clear h1 h2
  go_enter Tryz.func89, Tryz.ntmps89
  go_wp2
  go_region_held3 (fun w' => w'.cell? ⟨w.heap.size, 0, none⟩ = some (.int .i64 ax) ∧ w'.cell? ⟨w.heap.size, 1, none⟩ = some (.int .i64 ay) ∧ w'.cell? ⟨w.heap.size, 2, none⟩ = some (.int .i64 ax2) ∧ w'.cell? ⟨w.heap.size, 3, none⟩ = some (.int .i64 ay2) ∧ w'.cell? ⟨w.heap.size + 1, 0, none⟩ = some (.int .i64 bx) ∧ w'.cell? ⟨w.heap.size + 1, 1, none⟩ = some (.int .i64 by_) ∧ w'.cell? ⟨w.heap.size + 1, 2, none⟩ = some (.int .i64 bx2) ∧ w'.cell? ⟨w.heap.size + 1, 3, none⟩ = some (.int .i64 by2)) (go_keep) (fail)
  all_goals go_wp2
  all_goals go_ret
  all_goals exact ⟨rfl, _, _, by rw [alloc_as_grow, alloc_as_grow, grow_grow, drew_grow]; rfl⟩
set_option maxHeartbeats 4000000 in
set_option maxRecDepth 100000 in
theorem Tryz.orderLines_flat (ax ay ax2 ay2 bx by_ bx2 by2 : Int) (w : World) (h1 : ay = ay2) (h2 : by_ = by2) : Calls Tryz.prog 89 #[.agg #[.int .i64 ax, .int .i64 ay, .int .i64 ax2, .int .i64 ay2], .agg #[.int .i64 bx, .int .i64 by_, .int .i64 bx2, .int .i64 by2]] w fun e w' => e = .returned (.int .i64 (or3 (Lib.compareInt ay by_) (Lib.compareInt ax bx) (Lib.compareInt ax2 bx2))) ∧ ∃ q os, w' = grow (w.drewN q) os := by
  have e1 : (ay == ay2) = true := by simpa using h1
  have e2 : (by_ == by2) = true := by simpa using h2
  clear h1 h2
  go_enter Tryz.func89, Tryz.ntmps89
  go_wp2
  go_region_held3 (fun w' => w'.cell? ⟨w.heap.size, 0, none⟩ = some (.int .i64 ax) ∧ w'.cell? ⟨w.heap.size, 1, none⟩ = some (.int .i64 ay) ∧ w'.cell? ⟨w.heap.size, 2, none⟩ = some (.int .i64 ax2) ∧ w'.cell? ⟨w.heap.size, 3, none⟩ = some (.int .i64 ay2) ∧ w'.cell? ⟨w.heap.size + 1, 0, none⟩ = some (.int .i64 bx) ∧ w'.cell? ⟨w.heap.size + 1, 1, none⟩ = some (.int .i64 by_) ∧ w'.cell? ⟨w.heap.size + 1, 2, none⟩ = some (.int .i64 bx2) ∧ w'.cell? ⟨w.heap.size + 1, 3, none⟩ = some (.int .i64 by2)) (go_keep) (fail)
  all_goals go_wp2
  all_goals (go_region_held3 (fun w' => w'.cell? ⟨w.heap.size, 0, none⟩ = some (.int .i64 ax) ∧ w'.cell? ⟨w.heap.size, 1, none⟩ = some (.int .i64 ay) ∧ w'.cell? ⟨w.heap.size, 2, none⟩ = some (.int .i64 ax2) ∧ w'.cell? ⟨w.heap.size, 3, none⟩ = some (.int .i64 ay2) ∧ w'.cell? ⟨w.heap.size + 1, 0, none⟩ = some (.int .i64 bx) ∧ w'.cell? ⟨w.heap.size + 1, 1, none⟩ = some (.int .i64 by_) ∧ w'.cell? ⟨w.heap.size + 1, 2, none⟩ = some (.int .i64 bx2) ∧ w'.cell? ⟨w.heap.size + 1, 3, none⟩ = some (.int .i64 by2)) (go_keep) (first | (go_at_call 141; refine (Tryz.compare_int _ _ _).mono ?_; rintro e w' ⟨rfl, rfl⟩) | (go_at_call 140; refine (Tryz.or_int _ (Lib.compareInt ay by_) (Lib.compareInt ax bx) (Lib.compareInt ax2 bx2) _ (by simp; rw [World.cell?_alloc_at _ _ _ _ (by simp)]; rfl) (by simp; rw [World.cell?_alloc_at _ _ _ _ (by simp)]; rfl) (by simp; rw [World.cell?_alloc_at _ _ _ _ (by simp)]; rfl)).mono ?_; rintro e w' ⟨rfl, rfl⟩)))
  all_goals go_wp2
  all_goals go_ret
  all_goals exact ⟨rfl, 2, _, by simp only [alloc_as_grow, grow_grow, drew_grow]; rfl⟩
set_option maxHeartbeats 4000000 in
set_option maxRecDepth 100000 in
theorem Tryz.orderLines_up (ax ay ax2 ay2 bx by_ bx2 by2 : Int) (w : World) (h1 : ¬ ay = ay2) (h2 : ¬ by_ = by2) : Calls Tryz.prog 89 #[.agg #[.int .i64 ax, .int .i64 ay, .int .i64 ax2, .int .i64 ay2], .agg #[.int .i64 bx, .int .i64 by_, .int .i64 bx2, .int .i64 by2]] w fun e w' => e = .returned (.int .i64 (or3 (Lib.compareInt ax bx) (Lib.compareInt ay by_) (Lib.compareInt ay2 by2))) ∧ ∃ q os, w' = grow (w.drewN q) os := by
  have e1 : (ay == ay2) = false := by simpa using h1
  have e2 : (by_ == by2) = false := by simpa using h2
  clear h1 h2
  go_enter Tryz.func89, Tryz.ntmps89
  go_wp2
  go_region_held3 (fun w' => w'.cell? ⟨w.heap.size, 0, none⟩ = some (.int .i64 ax) ∧ w'.cell? ⟨w.heap.size, 1, none⟩ = some (.int .i64 ay) ∧ w'.cell? ⟨w.heap.size, 2, none⟩ = some (.int .i64 ax2) ∧ w'.cell? ⟨w.heap.size, 3, none⟩ = some (.int .i64 ay2) ∧ w'.cell? ⟨w.heap.size + 1, 0, none⟩ = some (.int .i64 bx) ∧ w'.cell? ⟨w.heap.size + 1, 1, none⟩ = some (.int .i64 by_) ∧ w'.cell? ⟨w.heap.size + 1, 2, none⟩ = some (.int .i64 bx2) ∧ w'.cell? ⟨w.heap.size + 1, 3, none⟩ = some (.int .i64 by2)) (go_keep) (fail)
  all_goals go_wp2
  all_goals (go_region_held3 (fun w' => w'.cell? ⟨w.heap.size, 0, none⟩ = some (.int .i64 ax) ∧ w'.cell? ⟨w.heap.size, 1, none⟩ = some (.int .i64 ay) ∧ w'.cell? ⟨w.heap.size, 2, none⟩ = some (.int .i64 ax2) ∧ w'.cell? ⟨w.heap.size, 3, none⟩ = some (.int .i64 ay2) ∧ w'.cell? ⟨w.heap.size + 1, 0, none⟩ = some (.int .i64 bx) ∧ w'.cell? ⟨w.heap.size + 1, 1, none⟩ = some (.int .i64 by_) ∧ w'.cell? ⟨w.heap.size + 1, 2, none⟩ = some (.int .i64 bx2) ∧ w'.cell? ⟨w.heap.size + 1, 3, none⟩ = some (.int .i64 by2)) (go_keep) (first | (go_at_call 141; refine (Tryz.compare_int _ _ _).mono ?_; rintro e w' ⟨rfl, rfl⟩) | (go_at_call 140; refine (Tryz.or_int _ (Lib.compareInt ax bx) (Lib.compareInt ay by_) (Lib.compareInt ay2 by2) _ (by simp; rw [World.cell?_alloc_at _ _ _ _ (by simp)]; rfl) (by simp; rw [World.cell?_alloc_at _ _ _ _ (by simp)]; rfl) (by simp; rw [World.cell?_alloc_at _ _ _ _ (by simp)]; rfl)).mono ?_; rintro e w' ⟨rfl, rfl⟩)))
  all_goals go_wp2
  all_goals go_ret
  all_goals exact ⟨rfl, 2, _, by simp only [alloc_as_grow, grow_grow, drew_grow]; rfl⟩
theorem Tryz.orderLines (a b : Seg) (w : World) : Calls Tryz.prog 89 #[.agg (encS a).toArray, .agg (encS b).toArray] w fun e w' => e = .returned (.int .i64 (ordS a b)) ∧ ∃ q os, w' = grow (w.drewN q) os := by
  obtain ⟨ax, ay, ax2, ay2⟩ := a
  obtain ⟨bx, by_, bx2, by2⟩ := b
  unfold ordS
  dsimp only
  by_cases h1 : ay = ay2 <;> by_cases h2 : by_ = by2
  · rw [if_neg (by simp [h2]), if_neg (by simp [h1]), if_pos h1]
    exact Tryz.orderLines_flat _ _ _ _ _ _ _ _ w h1 h2
  · rw [if_pos ⟨h1, h2⟩]
    exact Tryz.orderLines_lt _ _ _ _ _ _ _ _ w h1 h2
  · rw [if_neg (by simp [h1]), if_pos ⟨h2, h1⟩]
    exact Tryz.orderLines_gt _ _ _ _ _ _ _ _ w h1 h2
  · rw [if_neg (by simp [h1]), if_neg (by simp [h2]), if_neg h1]
    exact Tryz.orderLines_up _ _ _ _ _ _ _ _ w h1 h2
end Go.Proofs

namespace Go.Proofs
open Go.Shelf
def Tryz.laysSlF06_f88_ren : Go.Shelf.Ren := ⟨fun | 6 => 88 | 15 => 139 | 14 => 138 | 28 => 182 | 29 => 183 | 20 => 174 | 21 => 175 | 22 => 176 | 23 => 177 | 24 => 178 | 25 => 179 | 26 => 180 | 27 => 181 | 46 => 208 | 47 => 209 | 48 => 210 | 49 => 211 | 50 => 212 | 57 => 236 | n => n, fun | 22 => 26 | 24 => 43 | 25 => 167 | 3 => 3 | 39 => 184 | 0 => 0 | 53 => 265 | 55 => 267 | 4 => 4 | 46 => 259 | 45 => 258 | 50 => 193 | 5 => 5 | 9 => 9 | 66 => 285 | 70 => 289 | 76 => 310 | 77 => 105 | n => n, fun | n => n⟩
theorem Tryz.laysSlF06_f88 : Go.Proofs.SlLaysF0.n6 Tryz.prog Tryz.laysSlF06_f88_ren := {
  mixed := by kernel_rfl
  f6 := ⟨Tryz.f88.name, by decide, Tryz.func88.trans (congrArg some (by kernel_rfl))⟩
  f14 := ⟨Tryz.f138.name, by decide, Tryz.func138.trans (congrArg some (by kernel_rfl))⟩
  f15 := Tryz.func139.trans (congrArg some (by kernel_rfl))
  f20 := ⟨Tryz.f174.name, by decide, Tryz.func174.trans (congrArg some (by kernel_rfl))⟩
  f21 := ⟨Tryz.f175.name, by decide, Tryz.func175.trans (congrArg some (by kernel_rfl))⟩
  f22 := ⟨Tryz.f176.name, by decide, Tryz.func176.trans (congrArg some (by kernel_rfl))⟩
  f23 := ⟨Tryz.f177.name, by decide, Tryz.func177.trans (congrArg some (by kernel_rfl))⟩
  f24 := ⟨Tryz.f178.name, by decide, Tryz.func178.trans (congrArg some (by kernel_rfl))⟩
  f25 := ⟨Tryz.f179.name, by decide, Tryz.func179.trans (congrArg some (by kernel_rfl))⟩
  f26 := ⟨Tryz.f180.name, by decide, Tryz.func180.trans (congrArg some (by kernel_rfl))⟩
  f27 := ⟨Tryz.f181.name, by decide, Tryz.func181.trans (congrArg some (by kernel_rfl))⟩
  f28 := Tryz.func182.trans (congrArg some (by kernel_rfl))
  f29 := Tryz.func183.trans (congrArg some (by kernel_rfl))
  f46 := ⟨Tryz.f208.name, by decide, Tryz.func208.trans (congrArg some (by kernel_rfl))⟩
  f47 := Tryz.func209.trans (congrArg some (by kernel_rfl))
  f48 := Tryz.func210.trans (congrArg some (by kernel_rfl))
  f49 := ⟨Tryz.f211.name, by decide, Tryz.func211.trans (congrArg some (by kernel_rfl))⟩
  f50 := ⟨Tryz.f212.name, by decide, Tryz.func212.trans (congrArg some (by kernel_rfl))⟩
  f57 := ⟨Tryz.f236.name, by decide, Tryz.func236.trans (congrArg some (by kernel_rfl))⟩
  t0 := Tryz.underlying0
  a0 := Tryz.isAgg0
  z0 := Tryz.sizeOf0
  v0 := Tryz.zeroValue0
  t3 := Tryz.underlying3
  a3 := Tryz.isAgg3
  z3 := Tryz.sizeOf3
  v3 := Tryz.zeroValue3
  t4 := Tryz.underlying4
  a4 := Tryz.isAgg4
  z4 := Tryz.sizeOf4
  v4 := Tryz.zeroValue4
  t5 := Tryz.underlying5
  a5 := Tryz.isAgg5
  z5 := Tryz.sizeOf5
  v5 := Tryz.zeroValue5
  t9 := Tryz.underlying9
  a9 := Tryz.isAgg9
  z9 := Tryz.sizeOf9
  v9 := Tryz.zeroValue9
  t22 := Tryz.underlying26
  a22 := Tryz.isAgg26
  z22 := Tryz.sizeOf26
  v22 := Tryz.zeroValue26
  t25 := Tryz.underlying167
  a25 := Tryz.isAgg167
  z25 := Tryz.sizeOf167
  v25 := Tryz.zeroValue167
  t39 := Tryz.underlying184
  a39 := Tryz.isAgg184
  z39 := Tryz.sizeOf184
  v39 := Tryz.zeroValue184
  t45 := Tryz.underlying258
  a45 := Tryz.isAgg258
  z45 := Tryz.sizeOf258
  v45 := Tryz.zeroValue258
  t46 := Tryz.underlying259
  a46 := Tryz.isAgg259
  z46 := Tryz.sizeOf259
  v46 := Tryz.zeroValue259
  t50 := Tryz.underlying193
  a50 := Tryz.isAgg193
  z50 := Tryz.sizeOf193
  v50 := Tryz.zeroValue193
  t53 := Tryz.underlying265
  a53 := Tryz.isAgg265
  z53 := Tryz.sizeOf265
  v53 := Tryz.zeroValue265
  t55 := Tryz.underlying267
  a55 := Tryz.isAgg267
  z55 := Tryz.sizeOf267
  v55 := Tryz.zeroValue267
  t66 := Tryz.underlying285
  a66 := Tryz.isAgg285
  z66 := Tryz.sizeOf285
  v66 := Tryz.zeroValue285
  t70 := Tryz.underlying289
  a70 := Tryz.isAgg289
  z70 := Tryz.sizeOf289
  v70 := Tryz.zeroValue289
  t76 := Tryz.underlying310
  a76 := Tryz.isAgg310
  z76 := Tryz.sizeOf310
  v76 := Tryz.zeroValue310
  t77 := Tryz.underlying105
  a77 := Tryz.isAgg105
  z77 := Tryz.sizeOf105
  v77 := Tryz.zeroValue105 }
end Go.Proofs

namespace Go.Proofs.YteffpgliiilnjaaGreatDoor
open Go.Vm Go.RowKit Go.Lib Go.Sort
set_option linter.unusedVariables false

theorem ownsRow_putRowK {α : Type} [Inhabited α] {enc : α → List Value} {k : Nat} {w : World} {base : Nat} {e : TypeId} {g n cap q : Nat} {cs : List Value} {d : Array α} (h : w.ownsRow base e k (.slice (some ⟨g, 0, none⟩) n cap) n cs) (hd : d.size = n) :
    (putRowK enc k (Sort.ahead w q) g 0 d).ownsRow base e k (.slice (some ⟨g, 0, none⟩) n cap) n (flatK enc k d).toList := by
  rcases h.2 with ⟨e0, _⟩ | ⟨g', cap', cur, e0, hb, hg, hn, hm, hs, ht⟩
  · cases e0
  · injection e0 with e1 _ e3
    injection e1 with e1
    injection e1 with e1
    subst e1; subst e3
    have hle : n * k ≤ cap * k := Nat.mul_le_mul_right k hn
    refine ⟨by simp [hd], .inr ⟨g, cap, putCells id 0 (flatK enc k d) cur, rfl, hb, ?_, hn, hm, by simpa [putCells] using hs, ?_⟩⟩
    · simp [putRowK, putRow, mapBlock, Sort.ahead, Array.getElem?_modify, hg, onCells]
    · apply List.ext_getElem?
      intro j
      rw [List.getElem?_take, Array.getElem?_toList, Array.getElem?_toList]
      by_cases hj : j < n * k
      · have hjc : j < cur.size := by omega
        rw [if_pos hj]
        simp only [putCells, Array.getElem?_mapIdx, Array.getElem?_eq_getElem hjc, Option.map_some]
        rw [if_pos ⟨Nat.zero_le _, by rw [size_flatK, hd]; omega⟩, Array.getElem?_eq_getElem (by rw [size_flatK, hd]; exact hj)]
        simp [getElem!_pos, show j < d.size * k by rw [hd]; exact hj]
      · rw [if_neg hj, Array.getElem?_eq_none (by rw [size_flatK, hd]; omega)]
theorem ownsRow_grow8 {w : World} {os : Array Obj} {base : Nat} {e : TypeId} {k : Nat} {u : Value} {n : Nat} {cs : List Value} (h : w.ownsRow base e k u n cs) : (grow w os).ownsRow base e k u n cs := by
  refine ⟨h.1, ?_⟩
  rcases h.2 with hn | ⟨g, cap, cur, h1, h2, h3, rest⟩
  · exact .inl hn
  · exact .inr ⟨g, cap, cur, h1, h2, by rw [heap_grow_old _ _ (Array.getElem?_eq_some_iff.1 h3).1]; exact h3, rest⟩
theorem below_grow8 {B : Nat} {w0 w : World} {os : Array Obj} (h : Go.RowKit.Below B w0 w) (hB : B ≤ w.heap.size) : Go.RowKit.Below B w0 (grow w os) :=
  ⟨h.os, h.tape, h.output, by have := h.size; rw [size_grow]; omega, fun k hk => by rw [heap_grow_old _ _ (by omega)]; exact h.block k hk⟩
theorem rel_int {w : World} {ρ : Own} {st : Nat → Prop} {k : IntKind} {n : Int} {v : Value} (h : Rel EE w ρ st (.int k n) v) : v = .int k n := by
  cases h
  rfl
theorem enc_seg (s : Seg) : EE.enc .seg s = [.int .i64 s.X1, .int .i64 s.Y1, .int .i64 s.X2, .int .i64 s.Y2] := rfl
theorem k4 {k : Nat} (h : k < 4) : k = 0 ∨ k = 1 ∨ k = 2 ∨ k = 3 := by omega
/-- The cells of a row of lines. -/
theorem cells_of_rel {w : World} {ρ : Own} {st : Nat → Prop} {l : List Seg} {f : Nat → Value} (hr : ∀ i (h : i < l.length) k (hk : k < (EE.enc .seg l[i]).length), Rel EE w ρ st (EE.enc .seg l[i])[k] (f (i * UU.size .seg + k))) :
    ∀ i (h : i < l.length) k, k < 4 → f (i * 4 + k) = (encS l[i])[k]! := by
  intro i hi k hk
  rcases k4 hk with rfl | rfl | rfl | rfl
  · exact rel_int (hr i hi 0 (show 0 < 4 by decide))
  · exact rel_int (hr i hi 1 (show 1 < 4 by decide))
  · exact rel_int (hr i hi 2 (show 2 < 4 by decide))
  · exact rel_int (hr i hi 3 (show 3 < 4 by decide))
theorem rel_of_cells {w : World} {ρ : Own} {st : Nat → Prop} {l : List Seg} {f : Nat → Value} (hr : ∀ i (h : i < l.length) k, k < 4 → f (i * 4 + k) = (encS l[i])[k]!) :
    ∀ i (h : i < l.length) k (hk : k < (EE.enc .seg l[i]).length), Rel EE w ρ st (EE.enc .seg l[i])[k] (f (i * UU.size .seg + k)) := by
  intro i hi k hk
  have hk4 : k < 4 := hk
  have e := hr i hi k hk4
  rw [show i * UU.size .seg + k = i * 4 + k from rfl, e]
  rcases k4 hk4 with rfl | rfl | rfl | rfl
  · exact .int _ _
  · exact .int _ _
  · exact .int _ _
  · exact .int _ _
theorem flat_getD (l : List Seg) (i k : Nat) (hi : i < l.length) (hk : k < 4) : (flatK encS 4 l.toArray).toList.getD (i * 4 + k) undef = (encS l[i])[k]! := by
  have lt : i * 4 + k < (flatK encS 4 l.toArray).size := by
    rw [size_flatK]
    have : l.toArray.size = l.length := by simp
    omega
  have h1 : (flatK encS 4 l.toArray)[i * 4 + k]! = (encS l.toArray[(i * 4 + k) / 4]!)[(i * 4 + k) % 4]! := get_flatK _ _ _ _ (by rw [size_flatK] at lt; exact lt)
  rw [getElem!_pos (flatK encS 4 l.toArray) (i * 4 + k) lt] at h1
  have e1 : (i * 4 + k) / 4 = i := by omega
  have e2 : (i * 4 + k) % 4 = k := by omega
  rw [e1, e2, getElem!_pos l.toArray i (by simpa using hi)] at h1
  rw [List.getD_eq_getElem?_getD, Array.getElem?_toList, Array.getElem?_eq_getElem lt, Option.getD_some, h1]
  simp

theorem sort_seg {blk cap : Nat} {l : List Seg} {w : World} (hl : properL l) (hsz : l.length ≤ 100000) (hH : HoldsK encS 4 w blk 0 l.toArray) (hblk : blk < w.heap.size) :
    Calls Tryz.prog 88 #[.slice (some ⟨blk, 0, none⟩) l.length cap, .func (.func 89) #[] #[]] w fun e w' => e = .returned (.tuple #[]) ∧ ∃ n os, w' = grow (putRowK encS 4 (Sort.ahead w n) blk 0 (psort l).toArray) os := by
  have eg : ∀ args w, (callFunc 89 args).run Tryz.prog w = .ok (.enter 89 args) w := fun args w => callFunc_run (fn := Tryz.f89) Tryz.func89 (by kernel_rfl) rfl args w
  have h := AnyQ.slices_SortFunc Tryz.laysSlF06_f88 4 (fun w => by kernel_rfl) (fun w => by kernel_rfl) encS (fun _ => rfl) (fun x v hv => by
    simp only [encS, List.mem_cons, List.not_mem_nil, or_false] at hv
    rcases hv with rfl | rfl | rfl | rfl <;> rfl) ordS ordS_swo 89 #[] blk 0 cap l.toArray w eg (fun m os dk hdk x y => Tryz.orderLines x y _) hH hblk (by simp; omega)
  have h' : Calls Tryz.prog 88 #[.slice (some ⟨blk, 0, none⟩) l.length cap, .func (.func 89) #[] #[]] w fun e w' =>
      e = .returned (.tuple #[]) ∧ ∃ d' n os, PermIn 0 l.toArray.size l.toArray d' ∧ SortedIn (ltOf ordS) 0 l.toArray.size d' ∧ w' = sortWorldK encS 4 w blk 0 n d' os := h
  refine h'.mono ?_
  rintro e w' ⟨rfl, d', n, os, ⟨p1, p2, p3⟩, hs, rfl⟩
  refine ⟨rfl, n, os, ?_⟩
  have e1 : d'.toList.Perm l := by
    have q1 : (d'.extract 0 l.toArray.size).toList = d'.toList := by rw [← p1]; simp
    have q2 : (l.toArray.extract 0 l.toArray.size).toList = l := by simp
    rw [q1, q2] at p3
    exact p3
  have hsz' : d'.toList.length = l.toArray.size := by rw [Array.length_toList]; exact p1
  have e2 : d'.toList = psort l := by
    refine psort_one hl e1 ?_
    rw [List.pairwise_iff_getElem]
    intro i j hi hj hij
    have := hs i j (Nat.zero_le _) hij (by rw [hsz'] at hj; exact hj)
    rw [ltO_not] at this
    have gi : d'[i]! = d'.toList[i] := by rw [getElem!_pos _ _ (by rw [hsz'] at hi; rw [p1]; exact hi)]; simp
    have gj : d'[j]! = d'.toList[j] := by rw [getElem!_pos _ _ (by rw [hsz'] at hj; rw [p1]; exact hj)]; simp
    rw [gi, gj] at this
    exact this
  unfold sortWorldK
  rw [← e2]
theorem sort_none (c : Nat) (w : World) : Calls Tryz.prog 88 #[.slice none 0 c, .func (.func 89) #[] #[]] w fun e w' => e = .returned (.tuple #[]) ∧ w' = w :=
  AnyF.slices_SortFunc_none Tryz.laysSlF06_f88 none c (.func (.func 89) #[] #[]) w

noncomputable section
def eSort : EModel UU
  | [.osl 0 g, .fn 89 []], .row .seg g' l => cond (Nat.beq g g') (some ([properL l ∧ l.length ≤ 100000], .raw (.tuple #[]), .row .seg g' (psort l))) none
  | _, _ => none
theorem eff_sort {C : Cfg UU} (hP : C.P = Tryz.prog) (hE : C.E = EE) (w0 : World) : EffFn C 88 eSort w0 := by
  refine ⟨fun args w => by rw [hP]; exact callFunc_run (fn := Tryz.f88) Tryz.func88 (by kernel_rfl) rfl args w, fun st ρ w args k0 xs ob ob' cs r hb hst hdom hsep hob hsz hrel hc0 hm hc hc1 hpr hown => ?_⟩
  unfold eSort at hm
  split at hm
  · rename_i g g' l
    obtain ⟨hg, hm⟩ := cond_some hm
    obtain rfl := Nat.eq_of_beq_eq_true hg
    cases hm
    obtain rfl : 0 = k0 := by cases hown; rfl
    obtain ⟨h1, h2⟩ : properL l ∧ l.length ≤ 100000 := hc
    rw [hE] at hob hrel ⊢
    obtain ⟨u, cells, hu, hup, hro, hcs⟩ := hob
    have e0 := hrel 0 (by simp)
    have e1 := hrel 1 (by simp)
    obtain ⟨al⟩ := args
    match al, hsz with
    | [x, y], _ =>
      simp at e0 e1
      obtain rfl : x = u := by
        cases e0 with
        | osl _ _ u' hu' _ =>
          rw [hu] at hu'
          cases hu'
          rfl
        | oslOld _ _ g2 u' v hu' hlt =>
          rw [hu] at hu'
          cases hu'
          omega
      obtain rfl : y = .func (.func 89) #[] #[] := by
        cases e1 with
        | fn _ _ vs hn hl =>
          have : vs = #[] := Array.eq_empty_of_size_eq_zero hn
          rw [this]
      rw [hP]
      have hcells := cells_of_rel (f := fun j => cells.getD j undef) hcs
      have hbase : w0.heap.size ≤ w.heap.size := hb.size
      have fin : ∀ (w' : World) (cs' : List Value), w'.ownsRow w0.heap.size (UU.ety .seg) (UU.size .seg) x (psort l).length cs' → (∀ i (h : i < (psort l).length) k, k < 4 → cs'.getD (i * 4 + k) undef = (encS (psort l)[i])[k]!) → Go.RowKit.Below w0.heap.size w w' →
          (∀ b, b < w.heap.size → blk x ≠ some b → w'.heap[b]? = w.heap[b]?) → ∃ v ρ', Ending.returned (.tuple #[]) = .returned v ∧ Rel EE w' noOwn (fun _ => False) (.raw (.tuple #[])) v ∧
      RelObj EE w' ρ' (fun b => (st b ∨ w.heap.size ≤ b ∨ ∃ nm g u, ρ nm = some (g, u) ∧ blk u = some b) ∧ b < w'.heap.size ∧ ∀ nm g u, ρ' nm = some (g, u) → blk u ≠ some b) w0.heap.size 0 (.row .seg g (psort l)) ∧
      (∀ nm g' u, ρ' nm = some (g', u) → nm.id = 0 ∧ ((AObj.row .seg g (psort l) : AObj UU).simple = true → nm = .ob 0)) ∧ Chg (fun _ => False) (fun i => i = 0) w0.heap.size ρ ρ' w w' := by
        intro w' cs' q1 q2 q3 q4
        refine ⟨_, ρ, rfl, .raw _, ⟨x, cs', hu, hup, q1, rel_of_cells (f := fun j => cs'.getD j undef) q2⟩, hdom, ⟨fun _ _ => rfl, fun _ _ _ _ h => .inl h, q3, fun b hb hne => q4 b hb (hne (.ob 0) _ _ rfl hu), fun nm q u k hn h hbl => .inl ⟨nm, q, u, hn, h, hbl⟩, fun nm nm' q q' u u' k _ _ h h' hne hbl => hsep _ _ _ _ _ _ k h h' hne hbl⟩⟩
      have hlen : (psort l).length = l.length := (psort_perm l).length_eq
      rcases hro.2 with ⟨rfl, hn⟩ | ⟨b, cap, cur, rfl, q1, q2, q3, q4, q5, q6⟩
      · have hl0 : l = [] := List.eq_nil_of_length_eq_zero hn
        subst hl0
        refine (sort_none 0 w).mono ?_
        rintro e w' ⟨rfl, rfl⟩
        have e3 : psort ([] : List Seg) = [] := List.eq_nil_of_length_eq_zero (by rw [hlen]; rfl)
        refine fin w' [] ?_ (fun i h => ?_) (Go.RowKit.Below.refl _ _) (fun b hb _ => rfl)
        · rw [e3]
          exact World.ownsRow_nil _ _ _ _
        · rw [e3] at h
          exact absurd h (by simp)
      · have hbl : b < w.heap.size := (Array.getElem?_eq_some_iff.1 q2).1
        have hH : HoldsK encS 4 w b 0 l.toArray := by
          intro j hj
          rw [size_flatK] at hj
          have hj' : j < l.length * 4 := by simpa using hj
          have hcur : (cur.toList.take (l.length * 4))[j]? = cells[j]? := by
            have : UU.size .seg = 4 := rfl
            rw [this] at q6
            rw [q6]
          rw [List.getElem?_take, if_pos hj', Array.getElem?_toList] at hcur
          have hjc : j < cells.length := by
            have := hro.1
            have e4 : UU.size .seg = 4 := rfl
            rw [e4] at this
            omega
          rw [List.getElem?_eq_getElem hjc] at hcur
          have hv := hcells (j / 4) (by omega) (j % 4) (Nat.mod_lt _ (by decide))
          have hjj : j / 4 * 4 + j % 4 = j := by omega
          rw [hjj, List.getD_eq_getElem?_getD, List.getElem?_eq_getElem hjc, Option.getD_some] at hv
          refine ⟨?_, by simp [World.frozen?, q2]⟩
          rw [Nat.zero_add, get_flatK _ _ _ _ hj]
          simp only [World.cell?, q2]
          simp only [Option.isSome_none, Bool.false_eq_true, if_false]
          rw [hcur, hv]
          rw [getElem!_pos l.toArray (j / 4) (by simp; omega)]
          simp
        refine (sort_seg h1 h2 hH hbl).mono ?_
        rintro e w' ⟨rfl, n, os, rfl⟩
        have hsz2 : (psort l).toArray.size = l.length := by simp [hlen]
        refine fin _ (flatK encS 4 (psort l).toArray).toList ?_ (fun i hi k hk => flat_getD _ _ _ hi hk) ?_ (fun b' hb' hne => ?_)
        · rw [hlen]
          exact ownsRow_grow8 (ownsRow_putRowK hro hsz2)
        · refine below_grow8 ?_ (by rw [size_putRowK]; exact hbase)
          exact below_putRow (Go.RowKit.Below.refl _ _) q1
        · have hne' : b ≠ b' := fun e => hne (by rw [e]; rfl)
          rw [heap_grow_old _ _ (by rw [size_putRowK]; exact hb')]
          simp [putRowK, putRow, mapBlock, Sort.ahead, Array.getElem?_modify, hne']
  · cases hm
end
end Go.Proofs.YteffpgliiilnjaaGreatDoor

namespace Go.Proofs.YteffpgliiilnjaaGreatDoor
open Go.Vm Go.RowKit
set_option linter.unusedVariables false
noncomputable section

/-! ### program.code -/
set_option maxHeartbeats 4000000 in
set_option maxRecDepth 100000 in
theorem code_calls (n : Int) (w : World) (hg : w.cell? ⟨0, 0, none⟩ = some (.iface 244 (.agg #[.pointer (some ⟨9, 73, none⟩)]))) :
    Calls Tryz.prog 31 #[.iface 161 (.agg #[.int .i64 n])] w fun e w' => e = .returned (.int .i64 n) ∧ Below w.heap.size w w' := by
  have hlt : 0 < w.heap.size := by
    rcases Nat.eq_zero_or_pos w.heap.size with h0 | h
    · simp [World.cell?, h0] at hg
    · exact h
  have hA := Tryz.errors_As n ⟨w.heap.size, 0, none⟩ (.int .i64 0) (w.alloc (.cells #[.int .i64 0] 161)) (by rw [World.cell?_alloc_lt _ _ ⟨0, 0, none⟩ hlt]; exact hg) (by simp) (World.frozen?_alloc_at _ _ _ _ rfl)
  have hA' : Calls Tryz.prog 86 #[.iface 161 (.agg #[.int .i64 n]), .iface 165 (.pointer (some ⟨w.heap.size, 0, none⟩))] (w.alloc (.cells #[.int .i64 0] 161)) fun e w' => e = .returned (.bool true) ∧ w'.cell? ⟨w.heap.size, 0, none⟩ = some (.int .i64 n) ∧ Below w.heap.size w w' := hA.mono (by
    rintro e w' ⟨rfl, rfl⟩
    refine ⟨rfl, ?_, ?_⟩
    · refine World.cell?_setCell_same _ _ _ (u := .int .i64 0) ?_
      rw [World.cell?_alloc_lt _ _ ⟨w.heap.size, 0, none⟩ (by simp; omega), World.cell?_alloc_lt _ _ ⟨w.heap.size, 0, none⟩ (by simp; omega), World.cell?_alloc_lt _ _ ⟨w.heap.size, 0, none⟩ (by simp; omega), World.cell?_alloc_lt _ _ ⟨w.heap.size, 0, none⟩ (by simp), World.cell?_alloc_at _ _ _ _ rfl]
      rfl
    · exact ((((((Below.refl _ w).alloc (Nat.le_refl _) _).alloc (by simp) _).alloc (by simp; omega) _).alloc (by simp; omega) _).alloc (by simp; omega) _).setCell (by simp) _)
  clear hA hg
  go_enter Tryz.func31, Tryz.ntmps31
  go_wp2_with (go_at_call 86; refine hA'.mono ?_; rintro e w' ⟨rfl, hc, hb⟩)
  go_ret
  exact ⟨rfl, hb⟩
def mCode : Model UU
  | [.raw (.iface 161 (.agg ⟨[.int .i64 n]⟩))] => some ([], .int .i64 n)
  | _ => none
theorem sCode {C : Cfg UU} (hE : C.E = EE) (hs : SumOK C) (hP : C.P = Tryz.prog) (hI : ∀ w, C.inv w → inv1 w) : SumOK (C.add 31 mCode) := by
  refine hs.put ⟨fun args w => by rw [hP]; exact callFunc_run (fn := Tryz.f31) Tryz.func31 (by kernel_rfl) rfl args w, ?_⟩
  intro N w args xs cs r hinv hN hargs hm hc
  unfold mCode at hm
  split at hm
  · rename_i n
    cases hm
    obtain ⟨a, rfl, ha⟩ := args1 hargs
    rw [hP]
    cases ha
    refine (code_calls n w (hI w hinv).1.2).mono ?_
    rintro e w' ⟨rfl, hb⟩
    exact ⟨_, rfl, Fresh.of rfl rfl (.int _ _), hb⟩
  · cases hm

/-! ### program.dialects -/
def mDia : Model UU
  | [] => some ([], .frz .D)
  | _ => none
theorem sDia {C : Cfg UU} (hE : C.E = EE) (hs : SumOK C) (hP : C.P = Tryz.prog) : SumOK (C.add 51 mDia) := by
  refine hs.put ⟨fun args w => by rw [hP]; exact callFunc_run (fn := Tryz.f51) Tryz.func51 (by kernel_rfl) rfl args w, ?_⟩
  intro N w args xs cs r hinv hN hargs hm hc
  unfold mDia at hm
  split at hm
  · cases hm
    have : args = #[] := Array.eq_empty_of_size_eq_zero hargs.1
    subst this
    rw [hP, hE]
    refine (dialects_calls w).mono ?_
    rintro e w' ⟨rfl, rfl⟩
    refine ⟨_, rfl, Fresh.of rfl rfl (rfrz .D ?_), gr_below w _⟩
    have st : ∀ i, i < 4 → Out' N (gr w [M (lD (.map (some (w.heap.size + 1))) (.map (some (w.heap.size + 2))) (.map (some (w.heap.size + 3)))), M (strs wl1), M (strs wl2), M (strs wl3)]) (w.heap.size + i) := fun i hi => by
      refine ⟨?_, fun h => by have := hN _ h; omega⟩
      show _ < (w.heap ++ _).size
      simp
      omega
    exact ⟨_, _, _, ⟨_, rfl, st 1 (by omega), gr_at w _ 1⟩, ⟨_, rfl, st 2 (by omega), gr_at w _ 2⟩, ⟨_, rfl, st 3 (by omega), gr_at w _ 3⟩, ⟨_, rfl, st 0 (by omega), gr_at w _ 0⟩⟩
  · cases hm
/-! ### all of them -/
def C_hs : Cfg UU := ((((C_cof1.add 87 mClone87).add 33 mClone33).add 31 mCode).add 51 mDia).addEff 88 eSort
theorem s_hs : SumOK C_hs := by
  have h1 := sClone87 rfl s_cof1 rfl
  have h2 := sClone33 rfl h1 rfl
  have h3 := sCode rfl h2 rfl fun _ h => h
  have h4 := sDia rfl h3 rfl
  exact h4.putEff fun w0 _ => eff_sort rfl rfl w0
/-! ### calls in place -/
def inlF (f : FuncId) : Option (Func × Code) := cond (Nat.beq f 30) (some (Tryz.f30, bo Tryz.f30)) none
theorem inlF_ok (f : FuncId) (fn : Func) (c : Code) (h : inlF f = some (fn, c)) : Tryz.prog.funcs[f]? = some fn ∧ fn.body = some c ∧ ∀ (args : Array Value) (w : World), (callFunc f args).run Tryz.prog w = .ok (.enter f args) w := by
  unfold inlF at h
  obtain ⟨hf, h⟩ := cond_some h
  obtain rfl := Nat.eq_of_beq_eq_true hf
  cases h
  exact ⟨Tryz.func30, by kernel_rfl, fun args w => callFunc_run (fn := Tryz.f30) Tryz.func30 (by kernel_rfl) rfl args w⟩
def inl1 (C : Cfg UU) (hP : C.P = Tryz.prog := by rfl) : Cfg UU := { C with inl := inlF, inlOK := fun f fn c h => by rw [hP]; exact inlF_ok f fn c h, dep := 1 }
theorem addI {C : Cfg UU} (hP : C.P = Tryz.prog) (hs : SumOK C) (hmix : C.P.follows .mixedOrders = true) {f : FuncId} {m : Model UU} {fn : Func} {c : Code} (hf : C.P.funcs[f]? = some fn) (hn : (fn.name == "runtime.NumGoroutine") = false)
    (hb : fn.body = some c) (hx : ∀ xs cs r, m xs = some (cs, r) → conj cs → (Nat.ble xs.length fn.ntmps && Nat.ble fn.ntmps 1000000) = true ∧ ∃ M fuel fr, Done (exec (inl1 C hP) fn.ntmps M fuel 0 c (initSt xs) (AEnds (inl1 C hP) fr fn fun r' => r' = r))) : SumOK (C.add f m) := by
  have hs' : SumOK (inl1 C hP) := hs
  have := SumOK.addD (C := inl1 C hP) hs' hmix hf hn hb hx
  exact this
end
end Go.Proofs.YteffpgliiilnjaaGreatDoor

namespace Go.Proofs.YteffpgliiilnjaaGreatDoor
open Go.Vm Go.RowKit
set_option linter.unusedVariables false
noncomputable section
def k_program_united_0 (F : Nat) (Post : AVal UU → Prop) : AEx → ASt UU → Prop := kBlock 0 (kSeq (inliner M_program_united F 0 C_hs) C_hs Tryz.f32.ntmps M_program_united F 0 (cS (cS (cS (cS (cS (bo Tryz.f32)))))) (AEnds C_hs true Tryz.f32 Post))
set_option maxRecDepth 100000 in
theorem step_program_united_0 (F n r : Nat) (K : AEx → ASt UU → Prop) (t14 : Int) (t15 : Int) (l121 : List Seg) (l122 : List Seg) : iter (execG (inliner M_program_united F 0 C_hs) C_hs Tryz.f32.ntmps M_program_united F 0 (cL (cB (cS (cF (cS (cS (cS (cS (bo Tryz.f32)))))))))) (M_program_united 0 0) (n + 1) r (st_program_united_0 t14 t15 l121 l122) K = g_program_united_s0 (fun t14 t15 l121 l122 => iter (execG (inliner M_program_united F 0 C_hs) C_hs Tryz.f32.ntmps M_program_united F 0 (cL (cB (cS (cF (cS (cS (cS (cS (bo Tryz.f32)))))))))) (M_program_united 0 0) n (r + 1) (st_program_united_0 t14 t15 l121 l122) K) (fun t14 t15 l121 l122 => K (.exit 0) (st_program_united_0 t14 t15 l121 l122)) t14 t15 l121 l122 := by kernel_rfl
set_option maxRecDepth 100000 in
theorem cont_program_united_0_0 (F : Nat) (Post : AVal UU → Prop) (t14 : Int) (t15 : Int) (l121 : List Seg) (l122 : List Seg) : k_program_united_0 F Post (.exit 0) (st_program_united_0 t14 t15 l121 l122) = g_program_united_c0_0 (fun r0 => Post (.new .seg r0)) t14 t15 l121 l122 := by kernel_rfl
set_option maxRecDepth 100000 in
theorem entry_program_united (F : Nat) (Post : AVal UU → Prop) (a0 : List Seg) : exec C_hs Tryz.f32.ntmps M_program_united F 0 (bo Tryz.f32) (initSt [.sl .seg a0]) (AEnds C_hs true Tryz.f32 Post) = g_program_united_e a0 (fun r0 => Post (.new .seg r0)) (fun t14 t15 l121 l122 => iter (execG (inliner M_program_united F 0 C_hs) C_hs Tryz.f32.ntmps M_program_united F 0 (cL (cB (cS (cF (cS (cS (cS (cS (bo Tryz.f32)))))))))) (M_program_united 0 0) F 0 (st_program_united_0 t14 t15 l121 l122) (k_program_united_0 F Post)) := by kernel_rfl
theorem loop_program_united_0 (F : Nat) (K : AEx → ASt UU → Prop) : ∀ (n r : Nat) (t14 : Int) (t15 : Int) (l121 : List Seg) (l122 : List Seg), iter (execG (inliner M_program_united F 0 C_hs) C_hs Tryz.f32.ntmps M_program_united F 0 (cL (cB (cS (cF (cS (cS (cS (cS (bo Tryz.f32)))))))))) (M_program_united 0 0) n r (st_program_united_0 t14 t15 l121 l122) K = w_program_united_0 F  (fun t14 t15 l121 l122 => K (.exit 0) (st_program_united_0 t14 t15 l121 l122)) n t14 t15 l121 l122 := by
  intro n
  induction n with
  | zero => intros; rfl
  | succ n ih =>
    intro r t14 t15 l121 l122
    have e : (fun t14 t15 l121 l122 => iter (execG (inliner M_program_united F 0 C_hs) C_hs Tryz.f32.ntmps M_program_united F 0 (cL (cB (cS (cF (cS (cS (cS (cS (bo Tryz.f32)))))))))) (M_program_united 0 0) n (r + 1) (st_program_united_0 t14 t15 l121 l122) K) = w_program_united_0 F  (fun t14 t15 l121 l122 => K (.exit 0) (st_program_united_0 t14 t15 l121 l122)) n := by
      funext t14 t15 l121 l122
      exact ih (r + 1) t14 t15 l121 l122
    rw [step_program_united_0, e]
    rfl
theorem nl_program_united_0 (F : Nat) (Post : AVal UU → Prop) (t14 : Int) (t15 : Int) (l121 : List Seg) (l122 : List Seg) : iter (execG (inliner M_program_united F 0 C_hs) C_hs Tryz.f32.ntmps M_program_united F 0 (cL (cB (cS (cF (cS (cS (cS (cS (bo Tryz.f32)))))))))) (M_program_united 0 0) F 0 (st_program_united_0 t14 t15 l121 l122) (k_program_united_0 F Post) = n_program_united_0 F (fun r0 => Post (.new .seg r0)) t14 t15 l121 l122 := by
  rw [loop_program_united_0]
  have h0 : (fun t14 t15 l121 l122 => k_program_united_0 F Post (.exit 0) (st_program_united_0 t14 t15 l121 l122)) = (fun t14 t15 l121 l122 => g_program_united_c0_0 (fun r0 => Post (.new .seg r0)) t14 t15 l121 l122) := by
    funext t14 t15 l121 l122
    rw [cont_program_united_0_0]
  rw [h0]
  rfl
theorem exec_program_united (F : Nat) (Post : AVal UU → Prop) (a0 : List Seg) : exec C_hs Tryz.f32.ntmps M_program_united F 0 (bo Tryz.f32) (initSt [.sl .seg a0]) (AEnds C_hs true Tryz.f32 Post) = w_program_united F a0 (fun r0 => Post (.new .seg r0)) := by
  rw [entry_program_united]
  have e0 : (fun t14 t15 l121 l122 => iter (execG (inliner M_program_united F 0 C_hs) C_hs Tryz.f32.ntmps M_program_united F 0 (cL (cB (cS (cF (cS (cS (cS (cS (bo Tryz.f32)))))))))) (M_program_united 0 0) F 0 (st_program_united_0 t14 t15 l121 l122) (k_program_united_0 F Post)) = (n_program_united_0 F (fun r0 => Post (.new .seg r0))) := by
    funext t14 t15 l121 l122
    exact nl_program_united_0 F Post t14 t15 l121 l122
  rw [e0]
  rfl
def m_program_united : Model UU
  | [.sl .seg a0] => some ([pre_program_united a0], .new .seg (sp_program_united a0))
  | _ => none
def C_program_united : Cfg UU := C_hs.add 32 m_program_united
theorem s_program_united : SumOK C_program_united := by
  refine s_hs.addD mixed (fn := Tryz.f32) (c := bo Tryz.f32) Tryz.func32 (by kernel_rfl) (by kernel_rfl) ?_
  intro xs cs r h hc
  unfold m_program_united at h
  split at h
  · rename_i a0
    cases h
    obtain ⟨F, hF⟩ := ok_program_united a0 hc
    refine ⟨by kernel_rfl, M_program_united, F, true, ⟨?_⟩⟩
    rw [exec_program_united]
    refine hF _ ?_
    rfl
  · cases h
end
end Go.Proofs.YteffpgliiilnjaaGreatDoor

namespace Go.Proofs.YteffpgliiilnjaaGreatDoor
open Go.Vm Go.RowKit
set_option linter.unusedVariables false
noncomputable section
def k_program_RunCut_0 (F : Nat) (Post : AVal UU → Prop) : AEx → ASt UU → Prop := kBlock 0 (kSeq (inliner M_program_RunCut F 1 (inl1 C_program_united)) (inl1 C_program_united) Tryz.f9.ntmps M_program_RunCut F 0 (cS (cS (cS (cS (cS (bo Tryz.f9)))))) (AEnds (inl1 C_program_united) true Tryz.f9 Post))
set_option maxRecDepth 100000 in
theorem step_program_RunCut_0 (F n r : Nat) (K : AEx → ASt UU → Prop) (t5 : Int) (t24 : List Opn) (t25 : Int) (t26 : Int) (c23_0 : ByteArray) (c23_1 : ByteArray) (c23_2 : Int) (c23_3 : Int) (c23_4 : Int) (c23_5 : Int) (c23_6 : List Rect) (c23_7 : List Rect) (c23_8 : Int) (c23_9 : Int) (l50 : List Rect) (l51 : List Seg) : iter (execG (inliner M_program_RunCut F 1 (inl1 C_program_united)) (inl1 C_program_united) Tryz.f9.ntmps M_program_RunCut F 0 (cL (cB (cS (cF (cS (cS (cS (cS (bo Tryz.f9)))))))))) (M_program_RunCut 0 0) (n + 1) r (st_program_RunCut_0 t5 t24 t25 t26 c23_0 c23_1 c23_2 c23_3 c23_4 c23_5 c23_6 c23_7 c23_8 c23_9 l50 l51) K = g_program_RunCut_s0 (fun t5 t24 t25 t26 c23_0 c23_1 c23_2 c23_3 c23_4 c23_5 c23_6 c23_7 c23_8 c23_9 l50 l51 => iter (execG (inliner M_program_RunCut F 1 (inl1 C_program_united)) (inl1 C_program_united) Tryz.f9.ntmps M_program_RunCut F 0 (cL (cB (cS (cF (cS (cS (cS (cS (bo Tryz.f9)))))))))) (M_program_RunCut 0 0) n (r + 1) (st_program_RunCut_0 t5 t24 t25 t26 c23_0 c23_1 c23_2 c23_3 c23_4 c23_5 c23_6 c23_7 c23_8 c23_9 l50 l51) K) (fun t5 t24 t25 t26 c23_0 c23_1 c23_2 c23_3 c23_4 c23_5 c23_6 c23_7 c23_8 c23_9 l50 l51 => K .ret (st_program_RunCut_0 t5 t24 t25 t26 c23_0 c23_1 c23_2 c23_3 c23_4 c23_5 c23_6 c23_7 c23_8 c23_9 l50 l51)) (fun t5 t24 t25 t26 c23_0 c23_1 c23_2 c23_3 c23_4 c23_5 c23_6 c23_7 c23_8 c23_9 l50 l51 => K (.exit 0) (st_program_RunCut_0 t5 t24 t25 t26 c23_0 c23_1 c23_2 c23_3 c23_4 c23_5 c23_6 c23_7 c23_8 c23_9 l50 l51)) t5 t24 t25 t26 c23_0 c23_1 c23_2 c23_3 c23_4 c23_5 c23_6 c23_7 c23_8 c23_9 l50 l51 := by kernel_rfl
set_option maxRecDepth 100000 in
theorem cont_program_RunCut_0_0 (F : Nat) (Post : AVal UU → Prop) (t5 : Int) (t24 : List Opn) (t25 : Int) (t26 : Int) (c23_0 : ByteArray) (c23_1 : ByteArray) (c23_2 : Int) (c23_3 : Int) (c23_4 : Int) (c23_5 : Int) (c23_6 : List Rect) (c23_7 : List Rect) (c23_8 : Int) (c23_9 : Int) (l50 : List Rect) (l51 : List Seg) : k_program_RunCut_0 F Post .ret (st_program_RunCut_0 t5 t24 t25 t26 c23_0 c23_1 c23_2 c23_3 c23_4 c23_5 c23_6 c23_7 c23_8 c23_9 l50 l51) = g_program_RunCut_c0_0 (fun r0_Lines r0_Stamps r1 => Post (.tup [.agg [.new .seg r0_Lines, .new .rect r0_Stamps], .int .i64 r1])) t5 t24 t25 t26 c23_0 c23_1 c23_2 c23_3 c23_4 c23_5 c23_6 c23_7 c23_8 c23_9 l50 l51 := by kernel_rfl
set_option maxRecDepth 100000 in
theorem cont_program_RunCut_0_1 (F : Nat) (Post : AVal UU → Prop) (t5 : Int) (t24 : List Opn) (t25 : Int) (t26 : Int) (c23_0 : ByteArray) (c23_1 : ByteArray) (c23_2 : Int) (c23_3 : Int) (c23_4 : Int) (c23_5 : Int) (c23_6 : List Rect) (c23_7 : List Rect) (c23_8 : Int) (c23_9 : Int) (l50 : List Rect) (l51 : List Seg) : k_program_RunCut_0 F Post (.exit 0) (st_program_RunCut_0 t5 t24 t25 t26 c23_0 c23_1 c23_2 c23_3 c23_4 c23_5 c23_6 c23_7 c23_8 c23_9 l50 l51) = g_program_RunCut_c0_1 (fun r0_Lines r0_Stamps r1 => Post (.tup [.agg [.new .seg r0_Lines, .new .rect r0_Stamps], .int .i64 r1])) t5 t24 t25 t26 c23_0 c23_1 c23_2 c23_3 c23_4 c23_5 c23_6 c23_7 c23_8 c23_9 l50 l51 := by kernel_rfl
set_option maxRecDepth 100000 in
theorem entry_program_RunCut (F : Nat) (Post : AVal UU → Prop) (a0_Name : ByteArray) (a0_Material : ByteArray) (a0_Gauge : Int) (a0_Grain : Int) (a0_Width : Int) (a0_Height : Int) (a0_Clamps : List Rect) (a0_Used : List Rect) (a1 : List Opn) : exec (inl1 C_program_united) Tryz.f9.ntmps M_program_RunCut F 0 (bo Tryz.f9) (initSt [.agg [.str a0_Name, .str a0_Material, .int .i64 a0_Gauge, .int .i64 a0_Grain, .int .i64 a0_Width, .int .i64 a0_Height, .sl .rect a0_Clamps, .sl .rect a0_Used], .sl .op a1]) (AEnds (inl1 C_program_united) true Tryz.f9 Post) = g_program_RunCut_e a0_Name a0_Material a0_Gauge a0_Grain a0_Width a0_Height a0_Clamps a0_Used a1 (fun r0_Lines r0_Stamps r1 => Post (.tup [.agg [.new .seg r0_Lines, .new .rect r0_Stamps], .int .i64 r1])) (fun t5 t24 t25 t26 c23_0 c23_1 c23_2 c23_3 c23_4 c23_5 c23_6 c23_7 c23_8 c23_9 l50 l51 => iter (execG (inliner M_program_RunCut F 1 (inl1 C_program_united)) (inl1 C_program_united) Tryz.f9.ntmps M_program_RunCut F 0 (cL (cB (cS (cF (cS (cS (cS (cS (bo Tryz.f9)))))))))) (M_program_RunCut 0 0) F 0 (st_program_RunCut_0 t5 t24 t25 t26 c23_0 c23_1 c23_2 c23_3 c23_4 c23_5 c23_6 c23_7 c23_8 c23_9 l50 l51) (k_program_RunCut_0 F Post)) := by kernel_rfl
theorem loop_program_RunCut_0 (F : Nat) (K : AEx → ASt UU → Prop) : ∀ (n r : Nat) (t5 : Int) (t24 : List Opn) (t25 : Int) (t26 : Int) (c23_0 : ByteArray) (c23_1 : ByteArray) (c23_2 : Int) (c23_3 : Int) (c23_4 : Int) (c23_5 : Int) (c23_6 : List Rect) (c23_7 : List Rect) (c23_8 : Int) (c23_9 : Int) (l50 : List Rect) (l51 : List Seg), iter (execG (inliner M_program_RunCut F 1 (inl1 C_program_united)) (inl1 C_program_united) Tryz.f9.ntmps M_program_RunCut F 0 (cL (cB (cS (cF (cS (cS (cS (cS (bo Tryz.f9)))))))))) (M_program_RunCut 0 0) n r (st_program_RunCut_0 t5 t24 t25 t26 c23_0 c23_1 c23_2 c23_3 c23_4 c23_5 c23_6 c23_7 c23_8 c23_9 l50 l51) K = w_program_RunCut_0 F  (fun t5 t24 t25 t26 c23_0 c23_1 c23_2 c23_3 c23_4 c23_5 c23_6 c23_7 c23_8 c23_9 l50 l51 => K .ret (st_program_RunCut_0 t5 t24 t25 t26 c23_0 c23_1 c23_2 c23_3 c23_4 c23_5 c23_6 c23_7 c23_8 c23_9 l50 l51)) (fun t5 t24 t25 t26 c23_0 c23_1 c23_2 c23_3 c23_4 c23_5 c23_6 c23_7 c23_8 c23_9 l50 l51 => K (.exit 0) (st_program_RunCut_0 t5 t24 t25 t26 c23_0 c23_1 c23_2 c23_3 c23_4 c23_5 c23_6 c23_7 c23_8 c23_9 l50 l51)) n t5 t24 t25 t26 c23_0 c23_1 c23_2 c23_3 c23_4 c23_5 c23_6 c23_7 c23_8 c23_9 l50 l51 := by
  intro n
  induction n with
  | zero => intros; rfl
  | succ n ih =>
    intro r t5 t24 t25 t26 c23_0 c23_1 c23_2 c23_3 c23_4 c23_5 c23_6 c23_7 c23_8 c23_9 l50 l51
    have e : (fun t5 t24 t25 t26 c23_0 c23_1 c23_2 c23_3 c23_4 c23_5 c23_6 c23_7 c23_8 c23_9 l50 l51 => iter (execG (inliner M_program_RunCut F 1 (inl1 C_program_united)) (inl1 C_program_united) Tryz.f9.ntmps M_program_RunCut F 0 (cL (cB (cS (cF (cS (cS (cS (cS (bo Tryz.f9)))))))))) (M_program_RunCut 0 0) n (r + 1) (st_program_RunCut_0 t5 t24 t25 t26 c23_0 c23_1 c23_2 c23_3 c23_4 c23_5 c23_6 c23_7 c23_8 c23_9 l50 l51) K) = w_program_RunCut_0 F  (fun t5 t24 t25 t26 c23_0 c23_1 c23_2 c23_3 c23_4 c23_5 c23_6 c23_7 c23_8 c23_9 l50 l51 => K .ret (st_program_RunCut_0 t5 t24 t25 t26 c23_0 c23_1 c23_2 c23_3 c23_4 c23_5 c23_6 c23_7 c23_8 c23_9 l50 l51)) (fun t5 t24 t25 t26 c23_0 c23_1 c23_2 c23_3 c23_4 c23_5 c23_6 c23_7 c23_8 c23_9 l50 l51 => K (.exit 0) (st_program_RunCut_0 t5 t24 t25 t26 c23_0 c23_1 c23_2 c23_3 c23_4 c23_5 c23_6 c23_7 c23_8 c23_9 l50 l51)) n := by
      funext t5 t24 t25 t26 c23_0 c23_1 c23_2 c23_3 c23_4 c23_5 c23_6 c23_7 c23_8 c23_9 l50 l51
      exact ih (r + 1) t5 t24 t25 t26 c23_0 c23_1 c23_2 c23_3 c23_4 c23_5 c23_6 c23_7 c23_8 c23_9 l50 l51
    rw [step_program_RunCut_0, e]
    rfl
theorem nl_program_RunCut_0 (F : Nat) (Post : AVal UU → Prop) (t5 : Int) (t24 : List Opn) (t25 : Int) (t26 : Int) (c23_0 : ByteArray) (c23_1 : ByteArray) (c23_2 : Int) (c23_3 : Int) (c23_4 : Int) (c23_5 : Int) (c23_6 : List Rect) (c23_7 : List Rect) (c23_8 : Int) (c23_9 : Int) (l50 : List Rect) (l51 : List Seg) : iter (execG (inliner M_program_RunCut F 1 (inl1 C_program_united)) (inl1 C_program_united) Tryz.f9.ntmps M_program_RunCut F 0 (cL (cB (cS (cF (cS (cS (cS (cS (bo Tryz.f9)))))))))) (M_program_RunCut 0 0) F 0 (st_program_RunCut_0 t5 t24 t25 t26 c23_0 c23_1 c23_2 c23_3 c23_4 c23_5 c23_6 c23_7 c23_8 c23_9 l50 l51) (k_program_RunCut_0 F Post) = n_program_RunCut_0 F (fun r0_Lines r0_Stamps r1 => Post (.tup [.agg [.new .seg r0_Lines, .new .rect r0_Stamps], .int .i64 r1])) t5 t24 t25 t26 c23_0 c23_1 c23_2 c23_3 c23_4 c23_5 c23_6 c23_7 c23_8 c23_9 l50 l51 := by
  rw [loop_program_RunCut_0]
  have h0 : (fun t5 t24 t25 t26 c23_0 c23_1 c23_2 c23_3 c23_4 c23_5 c23_6 c23_7 c23_8 c23_9 l50 l51 => k_program_RunCut_0 F Post .ret (st_program_RunCut_0 t5 t24 t25 t26 c23_0 c23_1 c23_2 c23_3 c23_4 c23_5 c23_6 c23_7 c23_8 c23_9 l50 l51)) = (fun t5 t24 t25 t26 c23_0 c23_1 c23_2 c23_3 c23_4 c23_5 c23_6 c23_7 c23_8 c23_9 l50 l51 => g_program_RunCut_c0_0 (fun r0_Lines r0_Stamps r1 => Post (.tup [.agg [.new .seg r0_Lines, .new .rect r0_Stamps], .int .i64 r1])) t5 t24 t25 t26 c23_0 c23_1 c23_2 c23_3 c23_4 c23_5 c23_6 c23_7 c23_8 c23_9 l50 l51) := by
    funext t5 t24 t25 t26 c23_0 c23_1 c23_2 c23_3 c23_4 c23_5 c23_6 c23_7 c23_8 c23_9 l50 l51
    rw [cont_program_RunCut_0_0]
  have h1 : (fun t5 t24 t25 t26 c23_0 c23_1 c23_2 c23_3 c23_4 c23_5 c23_6 c23_7 c23_8 c23_9 l50 l51 => k_program_RunCut_0 F Post (.exit 0) (st_program_RunCut_0 t5 t24 t25 t26 c23_0 c23_1 c23_2 c23_3 c23_4 c23_5 c23_6 c23_7 c23_8 c23_9 l50 l51)) = (fun t5 t24 t25 t26 c23_0 c23_1 c23_2 c23_3 c23_4 c23_5 c23_6 c23_7 c23_8 c23_9 l50 l51 => g_program_RunCut_c0_1 (fun r0_Lines r0_Stamps r1 => Post (.tup [.agg [.new .seg r0_Lines, .new .rect r0_Stamps], .int .i64 r1])) t5 t24 t25 t26 c23_0 c23_1 c23_2 c23_3 c23_4 c23_5 c23_6 c23_7 c23_8 c23_9 l50 l51) := by
    funext t5 t24 t25 t26 c23_0 c23_1 c23_2 c23_3 c23_4 c23_5 c23_6 c23_7 c23_8 c23_9 l50 l51
    rw [cont_program_RunCut_0_1]
  rw [h0, h1]
  rfl
theorem exec_program_RunCut (F : Nat) (Post : AVal UU → Prop) (a0_Name : ByteArray) (a0_Material : ByteArray) (a0_Gauge : Int) (a0_Grain : Int) (a0_Width : Int) (a0_Height : Int) (a0_Clamps : List Rect) (a0_Used : List Rect) (a1 : List Opn) : exec (inl1 C_program_united) Tryz.f9.ntmps M_program_RunCut F 0 (bo Tryz.f9) (initSt [.agg [.str a0_Name, .str a0_Material, .int .i64 a0_Gauge, .int .i64 a0_Grain, .int .i64 a0_Width, .int .i64 a0_Height, .sl .rect a0_Clamps, .sl .rect a0_Used], .sl .op a1]) (AEnds (inl1 C_program_united) true Tryz.f9 Post) = w_program_RunCut F a0_Name a0_Material a0_Gauge a0_Grain a0_Width a0_Height a0_Clamps a0_Used a1 (fun r0_Lines r0_Stamps r1 => Post (.tup [.agg [.new .seg r0_Lines, .new .rect r0_Stamps], .int .i64 r1])) := by
  rw [entry_program_RunCut]
  have e0 : (fun t5 t24 t25 t26 c23_0 c23_1 c23_2 c23_3 c23_4 c23_5 c23_6 c23_7 c23_8 c23_9 l50 l51 => iter (execG (inliner M_program_RunCut F 1 (inl1 C_program_united)) (inl1 C_program_united) Tryz.f9.ntmps M_program_RunCut F 0 (cL (cB (cS (cF (cS (cS (cS (cS (bo Tryz.f9)))))))))) (M_program_RunCut 0 0) F 0 (st_program_RunCut_0 t5 t24 t25 t26 c23_0 c23_1 c23_2 c23_3 c23_4 c23_5 c23_6 c23_7 c23_8 c23_9 l50 l51) (k_program_RunCut_0 F Post)) = (n_program_RunCut_0 F (fun r0_Lines r0_Stamps r1 => Post (.tup [.agg [.new .seg r0_Lines, .new .rect r0_Stamps], .int .i64 r1]))) := by
    funext t5 t24 t25 t26 c23_0 c23_1 c23_2 c23_3 c23_4 c23_5 c23_6 c23_7 c23_8 c23_9 l50 l51
    exact nl_program_RunCut_0 F Post t5 t24 t25 t26 c23_0 c23_1 c23_2 c23_3 c23_4 c23_5 c23_6 c23_7 c23_8 c23_9 l50 l51
  rw [e0]
  rfl
def m_program_RunCut : Model UU
  | [.agg [.str a0_Name, .str a0_Material, .int .i64 a0_Gauge, .int .i64 a0_Grain, .int .i64 a0_Width, .int .i64 a0_Height, .sl .rect a0_Clamps, .sl .rect a0_Used], .sl .op a1] => some ([pre_program_RunCut a0_Name a0_Material a0_Gauge a0_Grain a0_Width a0_Height a0_Clamps a0_Used a1], .tup [.agg [.new .seg ((sp_program_RunCut a0_Name a0_Material a0_Gauge a0_Grain a0_Width a0_Height a0_Clamps a0_Used a1).1), .new .rect ((sp_program_RunCut a0_Name a0_Material a0_Gauge a0_Grain a0_Width a0_Height a0_Clamps a0_Used a1).2.1)], .int .i64 ((sp_program_RunCut a0_Name a0_Material a0_Gauge a0_Grain a0_Width a0_Height a0_Clamps a0_Used a1).2.2)])
  | _ => none
def C_program_RunCut : Cfg UU := C_program_united.add 9 m_program_RunCut
theorem s_program_RunCut : SumOK C_program_RunCut := by
  refine addI rfl s_program_united mixed (fn := Tryz.f9) (c := bo Tryz.f9) Tryz.func9 (by kernel_rfl) (by kernel_rfl) ?_
  intro xs cs r h hc
  unfold m_program_RunCut at h
  split at h
  · rename_i a0_Name a0_Material a0_Gauge a0_Grain a0_Width a0_Height a0_Clamps a0_Used a1
    cases h
    obtain ⟨F, hF⟩ := ok_program_RunCut a0_Name a0_Material a0_Gauge a0_Grain a0_Width a0_Height a0_Clamps a0_Used a1 hc
    refine ⟨by kernel_rfl, M_program_RunCut, F, true, ⟨?_⟩⟩
    rw [exec_program_RunCut]
    refine hF _ ?_
    rfl
  · cases h
def k_ref08_RunCut_0 (F : Nat) (Post : AVal UU → Prop) : AEx → ASt UU → Prop := kBlock 0 (kSeq (inliner M_ref08_RunCut F 0 C_program_RunCut) C_program_RunCut Tryz.f10.ntmps M_ref08_RunCut F 0 (cS (cS (cS (cS (cS (cS (cS (bo Tryz.f10)))))))) (AEnds C_program_RunCut false Tryz.f10 Post))
def k_ref08_RunCut_1 (F n r : Nat) (K : AEx → ASt UU → Prop) : AEx → ASt UU → Prop := kBlock 2 (kSeq (inliner M_ref08_RunCut F 0 C_program_RunCut) C_program_RunCut Tryz.f10.ntmps M_ref08_RunCut F 1 (cS (cS (cS (cT (cS (cF (cS (cS (cS (cB (cF (cS (cL (cB (cS (cF (cS (cS (cS (cS (cS (cS (bo Tryz.f10))))))))))))))))))))))) (kSeq (inliner M_ref08_RunCut F 0 C_program_RunCut) C_program_RunCut Tryz.f10.ntmps M_ref08_RunCut F 1 (cS (cS (cS (cS (cB (cF (cS (cL (cB (cS (cF (cS (cS (cS (cS (cS (cS (bo Tryz.f10)))))))))))))))))) (kBlock 1 (kSeq (inliner M_ref08_RunCut F 0 C_program_RunCut) C_program_RunCut Tryz.f10.ntmps M_ref08_RunCut F 0 (cS (cS (cL (cB (cS (cF (cS (cS (cS (cS (cS (cS (bo Tryz.f10))))))))))))) (kIter (execG (inliner M_ref08_RunCut F 0 C_program_RunCut) C_program_RunCut Tryz.f10.ntmps M_ref08_RunCut F 0 (cL (cB (cS (cF (cS (cS (cS (cS (cS (cS (bo Tryz.f10)))))))))))) (M_ref08_RunCut 0 0) n r K)))))
set_option maxRecDepth 100000 in
theorem step_ref08_RunCut_0 (F n r : Nat) (K : AEx → ASt UU → Prop) (t1 : List Opn) (t5 : Int) (t8 : Int) (t9 : Int) (t10 : Int) (c2_0 : ByteArray) (c2_1 : ByteArray) (c2_2 : Int) (c2_3 : Int) (c2_4 : Int) (c2_5 : Int) (c2_6 : List Rect) (c2_7 : List Rect) (l132 : List Rect) (l133 : List Seg) : iter (execG (inliner M_ref08_RunCut F 0 C_program_RunCut) C_program_RunCut Tryz.f10.ntmps M_ref08_RunCut F 0 (cL (cB (cS (cF (cS (cS (cS (cS (cS (cS (bo Tryz.f10)))))))))))) (M_ref08_RunCut 0 0) (n + 1) r (st_ref08_RunCut_0 t1 t5 t8 t9 t10 c2_0 c2_1 c2_2 c2_3 c2_4 c2_5 c2_6 c2_7 l132 l133) K = g_ref08_RunCut_s0 (fun t1 t5 t8 t9 t10 c2_0 c2_1 c2_2 c2_3 c2_4 c2_5 c2_6 c2_7 l132 l133 => iter (execG (inliner M_ref08_RunCut F 0 C_program_RunCut) C_program_RunCut Tryz.f10.ntmps M_ref08_RunCut F 0 (cL (cB (cS (cF (cS (cS (cS (cS (cS (cS (bo Tryz.f10)))))))))))) (M_ref08_RunCut 0 0) n (r + 1) (st_ref08_RunCut_0 t1 t5 t8 t9 t10 c2_0 c2_1 c2_2 c2_3 c2_4 c2_5 c2_6 c2_7 l132 l133) K) (fun t1 t5 t8 t9 t10 c2_0 c2_1 c2_2 c2_3 c2_4 c2_5 c2_6 c2_7 l132 l133 => K .ret (st_ref08_RunCut_0 t1 t5 t8 t9 t10 c2_0 c2_1 c2_2 c2_3 c2_4 c2_5 c2_6 c2_7 l132 l133)) (fun t1 t5 t8 t9 t10 c2_0 c2_1 c2_2 c2_3 c2_4 c2_5 c2_6 c2_7 l132 l133 => K (.exit 0) (st_ref08_RunCut_0 t1 t5 t8 t9 t10 c2_0 c2_1 c2_2 c2_3 c2_4 c2_5 c2_6 c2_7 l132 l133)) (fun t1 t5 t10 c2_0 c2_1 c2_2 c2_3 c2_4 c2_5 c2_6 c2_7 l132 l133 => K .ret (st_ref08_RunCut_0_2 t1 t5 t10 c2_0 c2_1 c2_2 c2_3 c2_4 c2_5 c2_6 c2_7 l132 l133)) t1 t5 t8 t9 t10 c2_0 c2_1 c2_2 c2_3 c2_4 c2_5 c2_6 c2_7 l132 l133 (fun t1 t5 t10 t15 c2_0 c2_1 c2_2 c2_3 c2_4 c2_5 c2_6 c2_7 c11_0 c11_1 c11_2 c11_3 c11_4 c11_5 c13_0 c13_1 c13_2 c13_3 l132 l133 => iter (execG (inliner M_ref08_RunCut F 0 C_program_RunCut) C_program_RunCut Tryz.f10.ntmps M_ref08_RunCut F 2 (cL (cB (cS (cF (cS (cS (cT (cS (cF (cS (cS (cS (cB (cF (cS (cL (cB (cS (cF (cS (cS (cS (cS (cS (cS (bo Tryz.f10))))))))))))))))))))))))))) (M_ref08_RunCut 0 2) F 0 (st_ref08_RunCut_1 t1 t5 t10 t15 c2_0 c2_1 c2_2 c2_3 c2_4 c2_5 c2_6 c2_7 c11_0 c11_1 c11_2 c11_3 c11_4 c11_5 c13_0 c13_1 c13_2 c13_3 l132 l133) (k_ref08_RunCut_1 F n r K)) := by kernel_rfl
set_option maxRecDepth 100000 in
theorem cont_ref08_RunCut_0_0 (F : Nat) (Post : AVal UU → Prop) (t1 : List Opn) (t5 : Int) (t8 : Int) (t9 : Int) (t10 : Int) (c2_0 : ByteArray) (c2_1 : ByteArray) (c2_2 : Int) (c2_3 : Int) (c2_4 : Int) (c2_5 : Int) (c2_6 : List Rect) (c2_7 : List Rect) (l132 : List Rect) (l133 : List Seg) : k_ref08_RunCut_0 F Post .ret (st_ref08_RunCut_0 t1 t5 t8 t9 t10 c2_0 c2_1 c2_2 c2_3 c2_4 c2_5 c2_6 c2_7 l132 l133) = g_ref08_RunCut_c0_0 (fun r0_Lines r0_Stamps r1 => Post (.tup [.agg [.sl .seg r0_Lines, .sl .rect r0_Stamps], .int .i64 r1])) t1 t5 t8 t9 t10 c2_0 c2_1 c2_2 c2_3 c2_4 c2_5 c2_6 c2_7 l132 l133 := by kernel_rfl
set_option maxRecDepth 100000 in
theorem cont_ref08_RunCut_0_1 (F : Nat) (Post : AVal UU → Prop) (t1 : List Opn) (t5 : Int) (t8 : Int) (t9 : Int) (t10 : Int) (c2_0 : ByteArray) (c2_1 : ByteArray) (c2_2 : Int) (c2_3 : Int) (c2_4 : Int) (c2_5 : Int) (c2_6 : List Rect) (c2_7 : List Rect) (l132 : List Rect) (l133 : List Seg) : k_ref08_RunCut_0 F Post (.exit 0) (st_ref08_RunCut_0 t1 t5 t8 t9 t10 c2_0 c2_1 c2_2 c2_3 c2_4 c2_5 c2_6 c2_7 l132 l133) = g_ref08_RunCut_c0_1 (fun r0_Lines r0_Stamps r1 => Post (.tup [.agg [.sl .seg r0_Lines, .sl .rect r0_Stamps], .int .i64 r1])) t1 t5 t8 t9 t10 c2_0 c2_1 c2_2 c2_3 c2_4 c2_5 c2_6 c2_7 l132 l133 := by kernel_rfl
set_option maxRecDepth 100000 in
theorem cont_ref08_RunCut_0_2 (F : Nat) (Post : AVal UU → Prop) (t1 : List Opn) (t5 : Int) (t10 : Int) (c2_0 : ByteArray) (c2_1 : ByteArray) (c2_2 : Int) (c2_3 : Int) (c2_4 : Int) (c2_5 : Int) (c2_6 : List Rect) (c2_7 : List Rect) (l132 : List Rect) (l133 : List Seg) : k_ref08_RunCut_0 F Post .ret (st_ref08_RunCut_0_2 t1 t5 t10 c2_0 c2_1 c2_2 c2_3 c2_4 c2_5 c2_6 c2_7 l132 l133) = g_ref08_RunCut_c0_2 (fun r0_Lines r0_Stamps r1 => Post (.tup [.agg [.sl .seg r0_Lines, .sl .rect r0_Stamps], .int .i64 r1])) t1 t5 t10 c2_0 c2_1 c2_2 c2_3 c2_4 c2_5 c2_6 c2_7 l132 l133 := by kernel_rfl
set_option maxRecDepth 100000 in
theorem step_ref08_RunCut_1 (F n r : Nat) (K : AEx → ASt UU → Prop) (t1 : List Opn) (t5 : Int) (t10 : Int) (t15 : Int) (c2_0 : ByteArray) (c2_1 : ByteArray) (c2_2 : Int) (c2_3 : Int) (c2_4 : Int) (c2_5 : Int) (c2_6 : List Rect) (c2_7 : List Rect) (c11_0 : Int) (c11_1 : Int) (c11_2 : Int) (c11_3 : Int) (c11_4 : Int) (c11_5 : Int) (c13_0 : Int) (c13_1 : Int) (c13_2 : Int) (c13_3 : Int) (l132 : List Rect) (l133 : List Seg) : iter (execG (inliner M_ref08_RunCut F 0 C_program_RunCut) C_program_RunCut Tryz.f10.ntmps M_ref08_RunCut F 2 (cL (cB (cS (cF (cS (cS (cT (cS (cF (cS (cS (cS (cB (cF (cS (cL (cB (cS (cF (cS (cS (cS (cS (cS (cS (bo Tryz.f10))))))))))))))))))))))))))) (M_ref08_RunCut 0 2) (n + 1) r (st_ref08_RunCut_1 t1 t5 t10 t15 c2_0 c2_1 c2_2 c2_3 c2_4 c2_5 c2_6 c2_7 c11_0 c11_1 c11_2 c11_3 c11_4 c11_5 c13_0 c13_1 c13_2 c13_3 l132 l133) K = g_ref08_RunCut_s1 (fun t1 t5 t10 t15 c2_0 c2_1 c2_2 c2_3 c2_4 c2_5 c2_6 c2_7 c11_0 c11_1 c11_2 c11_3 c11_4 c11_5 c13_0 c13_1 c13_2 c13_3 l132 l133 => iter (execG (inliner M_ref08_RunCut F 0 C_program_RunCut) C_program_RunCut Tryz.f10.ntmps M_ref08_RunCut F 2 (cL (cB (cS (cF (cS (cS (cT (cS (cF (cS (cS (cS (cB (cF (cS (cL (cB (cS (cF (cS (cS (cS (cS (cS (cS (bo Tryz.f10))))))))))))))))))))))))))) (M_ref08_RunCut 0 2) n (r + 1) (st_ref08_RunCut_1 t1 t5 t10 t15 c2_0 c2_1 c2_2 c2_3 c2_4 c2_5 c2_6 c2_7 c11_0 c11_1 c11_2 c11_3 c11_4 c11_5 c13_0 c13_1 c13_2 c13_3 l132 l133) K) (fun t1 t5 t10 t15 c2_0 c2_1 c2_2 c2_3 c2_4 c2_5 c2_6 c2_7 c11_0 c11_1 c11_2 c11_3 c11_4 c11_5 c13_0 c13_1 c13_2 c13_3 l132 l133 => K .ret (st_ref08_RunCut_1 t1 t5 t10 t15 c2_0 c2_1 c2_2 c2_3 c2_4 c2_5 c2_6 c2_7 c11_0 c11_1 c11_2 c11_3 c11_4 c11_5 c13_0 c13_1 c13_2 c13_3 l132 l133)) (fun t1 t5 t10 t15 c2_0 c2_1 c2_2 c2_3 c2_4 c2_5 c2_6 c2_7 c11_0 c11_1 c11_2 c11_3 c11_4 c11_5 c13_0 c13_1 c13_2 c13_3 l132 l133 => K (.exit 2) (st_ref08_RunCut_1 t1 t5 t10 t15 c2_0 c2_1 c2_2 c2_3 c2_4 c2_5 c2_6 c2_7 c11_0 c11_1 c11_2 c11_3 c11_4 c11_5 c13_0 c13_1 c13_2 c13_3 l132 l133)) t1 t5 t10 t15 c2_0 c2_1 c2_2 c2_3 c2_4 c2_5 c2_6 c2_7 c11_0 c11_1 c11_2 c11_3 c11_4 c11_5 c13_0 c13_1 c13_2 c13_3 l132 l133 := by kernel_rfl
set_option maxRecDepth 100000 in
theorem cont_ref08_RunCut_1_0 (F n r : Nat) (K : AEx → ASt UU → Prop) (t1 : List Opn) (t5 : Int) (t10 : Int) (t15 : Int) (c2_0 : ByteArray) (c2_1 : ByteArray) (c2_2 : Int) (c2_3 : Int) (c2_4 : Int) (c2_5 : Int) (c2_6 : List Rect) (c2_7 : List Rect) (c11_0 : Int) (c11_1 : Int) (c11_2 : Int) (c11_3 : Int) (c11_4 : Int) (c11_5 : Int) (c13_0 : Int) (c13_1 : Int) (c13_2 : Int) (c13_3 : Int) (l132 : List Rect) (l133 : List Seg) : k_ref08_RunCut_1 F n r K .ret (st_ref08_RunCut_1 t1 t5 t10 t15 c2_0 c2_1 c2_2 c2_3 c2_4 c2_5 c2_6 c2_7 c11_0 c11_1 c11_2 c11_3 c11_4 c11_5 c13_0 c13_1 c13_2 c13_3 l132 l133) = g_ref08_RunCut_c1_0 (fun t1 t5 t8 t9 t10 c2_0 c2_1 c2_2 c2_3 c2_4 c2_5 c2_6 c2_7 l132 l133 => iter (execG (inliner M_ref08_RunCut F 0 C_program_RunCut) C_program_RunCut Tryz.f10.ntmps M_ref08_RunCut F 0 (cL (cB (cS (cF (cS (cS (cS (cS (cS (cS (bo Tryz.f10)))))))))))) (M_ref08_RunCut 0 0) n (r + 1) (st_ref08_RunCut_0 t1 t5 t8 t9 t10 c2_0 c2_1 c2_2 c2_3 c2_4 c2_5 c2_6 c2_7 l132 l133) K) (fun t1 t5 t8 t9 t10 c2_0 c2_1 c2_2 c2_3 c2_4 c2_5 c2_6 c2_7 l132 l133 => K .ret (st_ref08_RunCut_0 t1 t5 t8 t9 t10 c2_0 c2_1 c2_2 c2_3 c2_4 c2_5 c2_6 c2_7 l132 l133)) (fun t1 t5 t8 t9 t10 c2_0 c2_1 c2_2 c2_3 c2_4 c2_5 c2_6 c2_7 l132 l133 => K (.exit 0) (st_ref08_RunCut_0 t1 t5 t8 t9 t10 c2_0 c2_1 c2_2 c2_3 c2_4 c2_5 c2_6 c2_7 l132 l133)) (fun t1 t5 t10 c2_0 c2_1 c2_2 c2_3 c2_4 c2_5 c2_6 c2_7 l132 l133 => K .ret (st_ref08_RunCut_0_2 t1 t5 t10 c2_0 c2_1 c2_2 c2_3 c2_4 c2_5 c2_6 c2_7 l132 l133)) t1 t5 t10 t15 c2_0 c2_1 c2_2 c2_3 c2_4 c2_5 c2_6 c2_7 c11_0 c11_1 c11_2 c11_3 c11_4 c11_5 c13_0 c13_1 c13_2 c13_3 l132 l133 := by kernel_rfl
set_option maxRecDepth 100000 in
theorem cont_ref08_RunCut_1_1 (F n r : Nat) (K : AEx → ASt UU → Prop) (t1 : List Opn) (t5 : Int) (t10 : Int) (t15 : Int) (c2_0 : ByteArray) (c2_1 : ByteArray) (c2_2 : Int) (c2_3 : Int) (c2_4 : Int) (c2_5 : Int) (c2_6 : List Rect) (c2_7 : List Rect) (c11_0 : Int) (c11_1 : Int) (c11_2 : Int) (c11_3 : Int) (c11_4 : Int) (c11_5 : Int) (c13_0 : Int) (c13_1 : Int) (c13_2 : Int) (c13_3 : Int) (l132 : List Rect) (l133 : List Seg) : k_ref08_RunCut_1 F n r K (.exit 2) (st_ref08_RunCut_1 t1 t5 t10 t15 c2_0 c2_1 c2_2 c2_3 c2_4 c2_5 c2_6 c2_7 c11_0 c11_1 c11_2 c11_3 c11_4 c11_5 c13_0 c13_1 c13_2 c13_3 l132 l133) = g_ref08_RunCut_c1_1 (fun t1 t5 t8 t9 t10 c2_0 c2_1 c2_2 c2_3 c2_4 c2_5 c2_6 c2_7 l132 l133 => iter (execG (inliner M_ref08_RunCut F 0 C_program_RunCut) C_program_RunCut Tryz.f10.ntmps M_ref08_RunCut F 0 (cL (cB (cS (cF (cS (cS (cS (cS (cS (cS (bo Tryz.f10)))))))))))) (M_ref08_RunCut 0 0) n (r + 1) (st_ref08_RunCut_0 t1 t5 t8 t9 t10 c2_0 c2_1 c2_2 c2_3 c2_4 c2_5 c2_6 c2_7 l132 l133) K) (fun t1 t5 t8 t9 t10 c2_0 c2_1 c2_2 c2_3 c2_4 c2_5 c2_6 c2_7 l132 l133 => K .ret (st_ref08_RunCut_0 t1 t5 t8 t9 t10 c2_0 c2_1 c2_2 c2_3 c2_4 c2_5 c2_6 c2_7 l132 l133)) (fun t1 t5 t8 t9 t10 c2_0 c2_1 c2_2 c2_3 c2_4 c2_5 c2_6 c2_7 l132 l133 => K (.exit 0) (st_ref08_RunCut_0 t1 t5 t8 t9 t10 c2_0 c2_1 c2_2 c2_3 c2_4 c2_5 c2_6 c2_7 l132 l133)) (fun t1 t5 t10 c2_0 c2_1 c2_2 c2_3 c2_4 c2_5 c2_6 c2_7 l132 l133 => K .ret (st_ref08_RunCut_0_2 t1 t5 t10 c2_0 c2_1 c2_2 c2_3 c2_4 c2_5 c2_6 c2_7 l132 l133)) t1 t5 t10 t15 c2_0 c2_1 c2_2 c2_3 c2_4 c2_5 c2_6 c2_7 c11_0 c11_1 c11_2 c11_3 c11_4 c11_5 c13_0 c13_1 c13_2 c13_3 l132 l133 := by kernel_rfl
set_option maxRecDepth 100000 in
theorem entry_ref08_RunCut (F : Nat) (Post : AVal UU → Prop) (a0_Name : ByteArray) (a0_Material : ByteArray) (a0_Gauge : Int) (a0_Grain : Int) (a0_Width : Int) (a0_Height : Int) (a0_Clamps : List Rect) (a0_Used : List Rect) (a1 : List Opn) : exec C_program_RunCut Tryz.f10.ntmps M_ref08_RunCut F 0 (bo Tryz.f10) (initSt [.agg [.str a0_Name, .str a0_Material, .int .i64 a0_Gauge, .int .i64 a0_Grain, .int .i64 a0_Width, .int .i64 a0_Height, .sl .rect a0_Clamps, .sl .rect a0_Used], .sl .op a1]) (AEnds C_program_RunCut false Tryz.f10 Post) = g_ref08_RunCut_e a0_Name a0_Material a0_Gauge a0_Grain a0_Width a0_Height a0_Clamps a0_Used a1 (fun r0_Lines r0_Stamps r1 => Post (.tup [.agg [.sl .seg r0_Lines, .sl .rect r0_Stamps], .int .i64 r1])) (fun t1 t5 t8 t9 t10 c2_0 c2_1 c2_2 c2_3 c2_4 c2_5 c2_6 c2_7 l132 l133 => iter (execG (inliner M_ref08_RunCut F 0 C_program_RunCut) C_program_RunCut Tryz.f10.ntmps M_ref08_RunCut F 0 (cL (cB (cS (cF (cS (cS (cS (cS (cS (cS (bo Tryz.f10)))))))))))) (M_ref08_RunCut 0 0) F 0 (st_ref08_RunCut_0 t1 t5 t8 t9 t10 c2_0 c2_1 c2_2 c2_3 c2_4 c2_5 c2_6 c2_7 l132 l133) (k_ref08_RunCut_0 F Post)) := by kernel_rfl
theorem loop_ref08_RunCut_1 (F : Nat) (K : AEx → ASt UU → Prop) : ∀ (n r : Nat) (t1 : List Opn) (t5 : Int) (t10 : Int) (t15 : Int) (c2_0 : ByteArray) (c2_1 : ByteArray) (c2_2 : Int) (c2_3 : Int) (c2_4 : Int) (c2_5 : Int) (c2_6 : List Rect) (c2_7 : List Rect) (c11_0 : Int) (c11_1 : Int) (c11_2 : Int) (c11_3 : Int) (c11_4 : Int) (c11_5 : Int) (c13_0 : Int) (c13_1 : Int) (c13_2 : Int) (c13_3 : Int) (l132 : List Rect) (l133 : List Seg), iter (execG (inliner M_ref08_RunCut F 0 C_program_RunCut) C_program_RunCut Tryz.f10.ntmps M_ref08_RunCut F 2 (cL (cB (cS (cF (cS (cS (cT (cS (cF (cS (cS (cS (cB (cF (cS (cL (cB (cS (cF (cS (cS (cS (cS (cS (cS (bo Tryz.f10))))))))))))))))))))))))))) (M_ref08_RunCut 0 2) n r (st_ref08_RunCut_1 t1 t5 t10 t15 c2_0 c2_1 c2_2 c2_3 c2_4 c2_5 c2_6 c2_7 c11_0 c11_1 c11_2 c11_3 c11_4 c11_5 c13_0 c13_1 c13_2 c13_3 l132 l133) K = w_ref08_RunCut_1 F  (fun t1 t5 t10 t15 c2_0 c2_1 c2_2 c2_3 c2_4 c2_5 c2_6 c2_7 c11_0 c11_1 c11_2 c11_3 c11_4 c11_5 c13_0 c13_1 c13_2 c13_3 l132 l133 => K .ret (st_ref08_RunCut_1 t1 t5 t10 t15 c2_0 c2_1 c2_2 c2_3 c2_4 c2_5 c2_6 c2_7 c11_0 c11_1 c11_2 c11_3 c11_4 c11_5 c13_0 c13_1 c13_2 c13_3 l132 l133)) (fun t1 t5 t10 t15 c2_0 c2_1 c2_2 c2_3 c2_4 c2_5 c2_6 c2_7 c11_0 c11_1 c11_2 c11_3 c11_4 c11_5 c13_0 c13_1 c13_2 c13_3 l132 l133 => K (.exit 2) (st_ref08_RunCut_1 t1 t5 t10 t15 c2_0 c2_1 c2_2 c2_3 c2_4 c2_5 c2_6 c2_7 c11_0 c11_1 c11_2 c11_3 c11_4 c11_5 c13_0 c13_1 c13_2 c13_3 l132 l133)) n t1 t5 t10 t15 c2_0 c2_1 c2_2 c2_3 c2_4 c2_5 c2_6 c2_7 c11_0 c11_1 c11_2 c11_3 c11_4 c11_5 c13_0 c13_1 c13_2 c13_3 l132 l133 := by
  intro n
  induction n with
  | zero => intros; rfl
  | succ n ih =>
    intro r t1 t5 t10 t15 c2_0 c2_1 c2_2 c2_3 c2_4 c2_5 c2_6 c2_7 c11_0 c11_1 c11_2 c11_3 c11_4 c11_5 c13_0 c13_1 c13_2 c13_3 l132 l133
    have e : (fun t1 t5 t10 t15 c2_0 c2_1 c2_2 c2_3 c2_4 c2_5 c2_6 c2_7 c11_0 c11_1 c11_2 c11_3 c11_4 c11_5 c13_0 c13_1 c13_2 c13_3 l132 l133 => iter (execG (inliner M_ref08_RunCut F 0 C_program_RunCut) C_program_RunCut Tryz.f10.ntmps M_ref08_RunCut F 2 (cL (cB (cS (cF (cS (cS (cT (cS (cF (cS (cS (cS (cB (cF (cS (cL (cB (cS (cF (cS (cS (cS (cS (cS (cS (bo Tryz.f10))))))))))))))))))))))))))) (M_ref08_RunCut 0 2) n (r + 1) (st_ref08_RunCut_1 t1 t5 t10 t15 c2_0 c2_1 c2_2 c2_3 c2_4 c2_5 c2_6 c2_7 c11_0 c11_1 c11_2 c11_3 c11_4 c11_5 c13_0 c13_1 c13_2 c13_3 l132 l133) K) = w_ref08_RunCut_1 F  (fun t1 t5 t10 t15 c2_0 c2_1 c2_2 c2_3 c2_4 c2_5 c2_6 c2_7 c11_0 c11_1 c11_2 c11_3 c11_4 c11_5 c13_0 c13_1 c13_2 c13_3 l132 l133 => K .ret (st_ref08_RunCut_1 t1 t5 t10 t15 c2_0 c2_1 c2_2 c2_3 c2_4 c2_5 c2_6 c2_7 c11_0 c11_1 c11_2 c11_3 c11_4 c11_5 c13_0 c13_1 c13_2 c13_3 l132 l133)) (fun t1 t5 t10 t15 c2_0 c2_1 c2_2 c2_3 c2_4 c2_5 c2_6 c2_7 c11_0 c11_1 c11_2 c11_3 c11_4 c11_5 c13_0 c13_1 c13_2 c13_3 l132 l133 => K (.exit 2) (st_ref08_RunCut_1 t1 t5 t10 t15 c2_0 c2_1 c2_2 c2_3 c2_4 c2_5 c2_6 c2_7 c11_0 c11_1 c11_2 c11_3 c11_4 c11_5 c13_0 c13_1 c13_2 c13_3 l132 l133)) n := by
      funext t1 t5 t10 t15 c2_0 c2_1 c2_2 c2_3 c2_4 c2_5 c2_6 c2_7 c11_0 c11_1 c11_2 c11_3 c11_4 c11_5 c13_0 c13_1 c13_2 c13_3 l132 l133
      exact ih (r + 1) t1 t5 t10 t15 c2_0 c2_1 c2_2 c2_3 c2_4 c2_5 c2_6 c2_7 c11_0 c11_1 c11_2 c11_3 c11_4 c11_5 c13_0 c13_1 c13_2 c13_3 l132 l133
    rw [step_ref08_RunCut_1, e]
    rfl
theorem nl_ref08_RunCut_1 (F n r : Nat) (K : AEx → ASt UU → Prop) (t1 : List Opn) (t5 : Int) (t10 : Int) (t15 : Int) (c2_0 : ByteArray) (c2_1 : ByteArray) (c2_2 : Int) (c2_3 : Int) (c2_4 : Int) (c2_5 : Int) (c2_6 : List Rect) (c2_7 : List Rect) (c11_0 : Int) (c11_1 : Int) (c11_2 : Int) (c11_3 : Int) (c11_4 : Int) (c11_5 : Int) (c13_0 : Int) (c13_1 : Int) (c13_2 : Int) (c13_3 : Int) (l132 : List Rect) (l133 : List Seg) : iter (execG (inliner M_ref08_RunCut F 0 C_program_RunCut) C_program_RunCut Tryz.f10.ntmps M_ref08_RunCut F 2 (cL (cB (cS (cF (cS (cS (cT (cS (cF (cS (cS (cS (cB (cF (cS (cL (cB (cS (cF (cS (cS (cS (cS (cS (cS (bo Tryz.f10))))))))))))))))))))))))))) (M_ref08_RunCut 0 2) F 0 (st_ref08_RunCut_1 t1 t5 t10 t15 c2_0 c2_1 c2_2 c2_3 c2_4 c2_5 c2_6 c2_7 c11_0 c11_1 c11_2 c11_3 c11_4 c11_5 c13_0 c13_1 c13_2 c13_3 l132 l133) (k_ref08_RunCut_1 F n r K) = n_ref08_RunCut_1 F (fun t1 t5 t8 t9 t10 c2_0 c2_1 c2_2 c2_3 c2_4 c2_5 c2_6 c2_7 l132 l133 => iter (execG (inliner M_ref08_RunCut F 0 C_program_RunCut) C_program_RunCut Tryz.f10.ntmps M_ref08_RunCut F 0 (cL (cB (cS (cF (cS (cS (cS (cS (cS (cS (bo Tryz.f10)))))))))))) (M_ref08_RunCut 0 0) n (r + 1) (st_ref08_RunCut_0 t1 t5 t8 t9 t10 c2_0 c2_1 c2_2 c2_3 c2_4 c2_5 c2_6 c2_7 l132 l133) K) (fun t1 t5 t8 t9 t10 c2_0 c2_1 c2_2 c2_3 c2_4 c2_5 c2_6 c2_7 l132 l133 => K .ret (st_ref08_RunCut_0 t1 t5 t8 t9 t10 c2_0 c2_1 c2_2 c2_3 c2_4 c2_5 c2_6 c2_7 l132 l133)) (fun t1 t5 t8 t9 t10 c2_0 c2_1 c2_2 c2_3 c2_4 c2_5 c2_6 c2_7 l132 l133 => K (.exit 0) (st_ref08_RunCut_0 t1 t5 t8 t9 t10 c2_0 c2_1 c2_2 c2_3 c2_4 c2_5 c2_6 c2_7 l132 l133)) (fun t1 t5 t10 c2_0 c2_1 c2_2 c2_3 c2_4 c2_5 c2_6 c2_7 l132 l133 => K .ret (st_ref08_RunCut_0_2 t1 t5 t10 c2_0 c2_1 c2_2 c2_3 c2_4 c2_5 c2_6 c2_7 l132 l133)) t1 t5 t10 t15 c2_0 c2_1 c2_2 c2_3 c2_4 c2_5 c2_6 c2_7 c11_0 c11_1 c11_2 c11_3 c11_4 c11_5 c13_0 c13_1 c13_2 c13_3 l132 l133 := by
  rw [loop_ref08_RunCut_1]
  have h0 : (fun t1 t5 t10 t15 c2_0 c2_1 c2_2 c2_3 c2_4 c2_5 c2_6 c2_7 c11_0 c11_1 c11_2 c11_3 c11_4 c11_5 c13_0 c13_1 c13_2 c13_3 l132 l133 => k_ref08_RunCut_1 F n r K .ret (st_ref08_RunCut_1 t1 t5 t10 t15 c2_0 c2_1 c2_2 c2_3 c2_4 c2_5 c2_6 c2_7 c11_0 c11_1 c11_2 c11_3 c11_4 c11_5 c13_0 c13_1 c13_2 c13_3 l132 l133)) = (fun t1 t5 t10 t15 c2_0 c2_1 c2_2 c2_3 c2_4 c2_5 c2_6 c2_7 c11_0 c11_1 c11_2 c11_3 c11_4 c11_5 c13_0 c13_1 c13_2 c13_3 l132 l133 => g_ref08_RunCut_c1_0 (fun t1 t5 t8 t9 t10 c2_0 c2_1 c2_2 c2_3 c2_4 c2_5 c2_6 c2_7 l132 l133 => iter (execG (inliner M_ref08_RunCut F 0 C_program_RunCut) C_program_RunCut Tryz.f10.ntmps M_ref08_RunCut F 0 (cL (cB (cS (cF (cS (cS (cS (cS (cS (cS (bo Tryz.f10)))))))))))) (M_ref08_RunCut 0 0) n (r + 1) (st_ref08_RunCut_0 t1 t5 t8 t9 t10 c2_0 c2_1 c2_2 c2_3 c2_4 c2_5 c2_6 c2_7 l132 l133) K) (fun t1 t5 t8 t9 t10 c2_0 c2_1 c2_2 c2_3 c2_4 c2_5 c2_6 c2_7 l132 l133 => K .ret (st_ref08_RunCut_0 t1 t5 t8 t9 t10 c2_0 c2_1 c2_2 c2_3 c2_4 c2_5 c2_6 c2_7 l132 l133)) (fun t1 t5 t8 t9 t10 c2_0 c2_1 c2_2 c2_3 c2_4 c2_5 c2_6 c2_7 l132 l133 => K (.exit 0) (st_ref08_RunCut_0 t1 t5 t8 t9 t10 c2_0 c2_1 c2_2 c2_3 c2_4 c2_5 c2_6 c2_7 l132 l133)) (fun t1 t5 t10 c2_0 c2_1 c2_2 c2_3 c2_4 c2_5 c2_6 c2_7 l132 l133 => K .ret (st_ref08_RunCut_0_2 t1 t5 t10 c2_0 c2_1 c2_2 c2_3 c2_4 c2_5 c2_6 c2_7 l132 l133)) t1 t5 t10 t15 c2_0 c2_1 c2_2 c2_3 c2_4 c2_5 c2_6 c2_7 c11_0 c11_1 c11_2 c11_3 c11_4 c11_5 c13_0 c13_1 c13_2 c13_3 l132 l133) := by
    funext t1 t5 t10 t15 c2_0 c2_1 c2_2 c2_3 c2_4 c2_5 c2_6 c2_7 c11_0 c11_1 c11_2 c11_3 c11_4 c11_5 c13_0 c13_1 c13_2 c13_3 l132 l133
    rw [cont_ref08_RunCut_1_0]
  have h1 : (fun t1 t5 t10 t15 c2_0 c2_1 c2_2 c2_3 c2_4 c2_5 c2_6 c2_7 c11_0 c11_1 c11_2 c11_3 c11_4 c11_5 c13_0 c13_1 c13_2 c13_3 l132 l133 => k_ref08_RunCut_1 F n r K (.exit 2) (st_ref08_RunCut_1 t1 t5 t10 t15 c2_0 c2_1 c2_2 c2_3 c2_4 c2_5 c2_6 c2_7 c11_0 c11_1 c11_2 c11_3 c11_4 c11_5 c13_0 c13_1 c13_2 c13_3 l132 l133)) = (fun t1 t5 t10 t15 c2_0 c2_1 c2_2 c2_3 c2_4 c2_5 c2_6 c2_7 c11_0 c11_1 c11_2 c11_3 c11_4 c11_5 c13_0 c13_1 c13_2 c13_3 l132 l133 => g_ref08_RunCut_c1_1 (fun t1 t5 t8 t9 t10 c2_0 c2_1 c2_2 c2_3 c2_4 c2_5 c2_6 c2_7 l132 l133 => iter (execG (inliner M_ref08_RunCut F 0 C_program_RunCut) C_program_RunCut Tryz.f10.ntmps M_ref08_RunCut F 0 (cL (cB (cS (cF (cS (cS (cS (cS (cS (cS (bo Tryz.f10)))))))))))) (M_ref08_RunCut 0 0) n (r + 1) (st_ref08_RunCut_0 t1 t5 t8 t9 t10 c2_0 c2_1 c2_2 c2_3 c2_4 c2_5 c2_6 c2_7 l132 l133) K) (fun t1 t5 t8 t9 t10 c2_0 c2_1 c2_2 c2_3 c2_4 c2_5 c2_6 c2_7 l132 l133 => K .ret (st_ref08_RunCut_0 t1 t5 t8 t9 t10 c2_0 c2_1 c2_2 c2_3 c2_4 c2_5 c2_6 c2_7 l132 l133)) (fun t1 t5 t8 t9 t10 c2_0 c2_1 c2_2 c2_3 c2_4 c2_5 c2_6 c2_7 l132 l133 => K (.exit 0) (st_ref08_RunCut_0 t1 t5 t8 t9 t10 c2_0 c2_1 c2_2 c2_3 c2_4 c2_5 c2_6 c2_7 l132 l133)) (fun t1 t5 t10 c2_0 c2_1 c2_2 c2_3 c2_4 c2_5 c2_6 c2_7 l132 l133 => K .ret (st_ref08_RunCut_0_2 t1 t5 t10 c2_0 c2_1 c2_2 c2_3 c2_4 c2_5 c2_6 c2_7 l132 l133)) t1 t5 t10 t15 c2_0 c2_1 c2_2 c2_3 c2_4 c2_5 c2_6 c2_7 c11_0 c11_1 c11_2 c11_3 c11_4 c11_5 c13_0 c13_1 c13_2 c13_3 l132 l133) := by
    funext t1 t5 t10 t15 c2_0 c2_1 c2_2 c2_3 c2_4 c2_5 c2_6 c2_7 c11_0 c11_1 c11_2 c11_3 c11_4 c11_5 c13_0 c13_1 c13_2 c13_3 l132 l133
    rw [cont_ref08_RunCut_1_1]
  rw [h0, h1]
  rfl
theorem loop_ref08_RunCut_0 (F : Nat) (K : AEx → ASt UU → Prop) : ∀ (n r : Nat) (t1 : List Opn) (t5 : Int) (t8 : Int) (t9 : Int) (t10 : Int) (c2_0 : ByteArray) (c2_1 : ByteArray) (c2_2 : Int) (c2_3 : Int) (c2_4 : Int) (c2_5 : Int) (c2_6 : List Rect) (c2_7 : List Rect) (l132 : List Rect) (l133 : List Seg), iter (execG (inliner M_ref08_RunCut F 0 C_program_RunCut) C_program_RunCut Tryz.f10.ntmps M_ref08_RunCut F 0 (cL (cB (cS (cF (cS (cS (cS (cS (cS (cS (bo Tryz.f10)))))))))))) (M_ref08_RunCut 0 0) n r (st_ref08_RunCut_0 t1 t5 t8 t9 t10 c2_0 c2_1 c2_2 c2_3 c2_4 c2_5 c2_6 c2_7 l132 l133) K = w_ref08_RunCut_0 F  (fun t1 t5 t8 t9 t10 c2_0 c2_1 c2_2 c2_3 c2_4 c2_5 c2_6 c2_7 l132 l133 => K .ret (st_ref08_RunCut_0 t1 t5 t8 t9 t10 c2_0 c2_1 c2_2 c2_3 c2_4 c2_5 c2_6 c2_7 l132 l133)) (fun t1 t5 t8 t9 t10 c2_0 c2_1 c2_2 c2_3 c2_4 c2_5 c2_6 c2_7 l132 l133 => K (.exit 0) (st_ref08_RunCut_0 t1 t5 t8 t9 t10 c2_0 c2_1 c2_2 c2_3 c2_4 c2_5 c2_6 c2_7 l132 l133)) (fun t1 t5 t10 c2_0 c2_1 c2_2 c2_3 c2_4 c2_5 c2_6 c2_7 l132 l133 => K .ret (st_ref08_RunCut_0_2 t1 t5 t10 c2_0 c2_1 c2_2 c2_3 c2_4 c2_5 c2_6 c2_7 l132 l133)) n t1 t5 t8 t9 t10 c2_0 c2_1 c2_2 c2_3 c2_4 c2_5 c2_6 c2_7 l132 l133 := by
  intro n
  induction n with
  | zero => intros; rfl
  | succ n ih =>
    intro r t1 t5 t8 t9 t10 c2_0 c2_1 c2_2 c2_3 c2_4 c2_5 c2_6 c2_7 l132 l133
    have e : (fun t1 t5 t8 t9 t10 c2_0 c2_1 c2_2 c2_3 c2_4 c2_5 c2_6 c2_7 l132 l133 => iter (execG (inliner M_ref08_RunCut F 0 C_program_RunCut) C_program_RunCut Tryz.f10.ntmps M_ref08_RunCut F 0 (cL (cB (cS (cF (cS (cS (cS (cS (cS (cS (bo Tryz.f10)))))))))))) (M_ref08_RunCut 0 0) n (r + 1) (st_ref08_RunCut_0 t1 t5 t8 t9 t10 c2_0 c2_1 c2_2 c2_3 c2_4 c2_5 c2_6 c2_7 l132 l133) K) = w_ref08_RunCut_0 F  (fun t1 t5 t8 t9 t10 c2_0 c2_1 c2_2 c2_3 c2_4 c2_5 c2_6 c2_7 l132 l133 => K .ret (st_ref08_RunCut_0 t1 t5 t8 t9 t10 c2_0 c2_1 c2_2 c2_3 c2_4 c2_5 c2_6 c2_7 l132 l133)) (fun t1 t5 t8 t9 t10 c2_0 c2_1 c2_2 c2_3 c2_4 c2_5 c2_6 c2_7 l132 l133 => K (.exit 0) (st_ref08_RunCut_0 t1 t5 t8 t9 t10 c2_0 c2_1 c2_2 c2_3 c2_4 c2_5 c2_6 c2_7 l132 l133)) (fun t1 t5 t10 c2_0 c2_1 c2_2 c2_3 c2_4 c2_5 c2_6 c2_7 l132 l133 => K .ret (st_ref08_RunCut_0_2 t1 t5 t10 c2_0 c2_1 c2_2 c2_3 c2_4 c2_5 c2_6 c2_7 l132 l133)) n := by
      funext t1 t5 t8 t9 t10 c2_0 c2_1 c2_2 c2_3 c2_4 c2_5 c2_6 c2_7 l132 l133
      exact ih (r + 1) t1 t5 t8 t9 t10 c2_0 c2_1 c2_2 c2_3 c2_4 c2_5 c2_6 c2_7 l132 l133
    have e1 : (fun t1 t5 t10 t15 c2_0 c2_1 c2_2 c2_3 c2_4 c2_5 c2_6 c2_7 c11_0 c11_1 c11_2 c11_3 c11_4 c11_5 c13_0 c13_1 c13_2 c13_3 l132 l133 => iter (execG (inliner M_ref08_RunCut F 0 C_program_RunCut) C_program_RunCut Tryz.f10.ntmps M_ref08_RunCut F 2 (cL (cB (cS (cF (cS (cS (cT (cS (cF (cS (cS (cS (cB (cF (cS (cL (cB (cS (cF (cS (cS (cS (cS (cS (cS (bo Tryz.f10))))))))))))))))))))))))))) (M_ref08_RunCut 0 2) F 0 (st_ref08_RunCut_1 t1 t5 t10 t15 c2_0 c2_1 c2_2 c2_3 c2_4 c2_5 c2_6 c2_7 c11_0 c11_1 c11_2 c11_3 c11_4 c11_5 c13_0 c13_1 c13_2 c13_3 l132 l133) (k_ref08_RunCut_1 F n r K)) = (n_ref08_RunCut_1 F (fun t1 t5 t8 t9 t10 c2_0 c2_1 c2_2 c2_3 c2_4 c2_5 c2_6 c2_7 l132 l133 => iter (execG (inliner M_ref08_RunCut F 0 C_program_RunCut) C_program_RunCut Tryz.f10.ntmps M_ref08_RunCut F 0 (cL (cB (cS (cF (cS (cS (cS (cS (cS (cS (bo Tryz.f10)))))))))))) (M_ref08_RunCut 0 0) n (r + 1) (st_ref08_RunCut_0 t1 t5 t8 t9 t10 c2_0 c2_1 c2_2 c2_3 c2_4 c2_5 c2_6 c2_7 l132 l133) K) (fun t1 t5 t8 t9 t10 c2_0 c2_1 c2_2 c2_3 c2_4 c2_5 c2_6 c2_7 l132 l133 => K .ret (st_ref08_RunCut_0 t1 t5 t8 t9 t10 c2_0 c2_1 c2_2 c2_3 c2_4 c2_5 c2_6 c2_7 l132 l133)) (fun t1 t5 t8 t9 t10 c2_0 c2_1 c2_2 c2_3 c2_4 c2_5 c2_6 c2_7 l132 l133 => K (.exit 0) (st_ref08_RunCut_0 t1 t5 t8 t9 t10 c2_0 c2_1 c2_2 c2_3 c2_4 c2_5 c2_6 c2_7 l132 l133)) (fun t1 t5 t10 c2_0 c2_1 c2_2 c2_3 c2_4 c2_5 c2_6 c2_7 l132 l133 => K .ret (st_ref08_RunCut_0_2 t1 t5 t10 c2_0 c2_1 c2_2 c2_3 c2_4 c2_5 c2_6 c2_7 l132 l133))) := by
      funext t1 t5 t10 t15 c2_0 c2_1 c2_2 c2_3 c2_4 c2_5 c2_6 c2_7 c11_0 c11_1 c11_2 c11_3 c11_4 c11_5 c13_0 c13_1 c13_2 c13_3 l132 l133
      exact nl_ref08_RunCut_1 F n r K t1 t5 t10 t15 c2_0 c2_1 c2_2 c2_3 c2_4 c2_5 c2_6 c2_7 c11_0 c11_1 c11_2 c11_3 c11_4 c11_5 c13_0 c13_1 c13_2 c13_3 l132 l133
    rw [step_ref08_RunCut_0, e1, e]
    rfl
theorem nl_ref08_RunCut_0 (F : Nat) (Post : AVal UU → Prop) (t1 : List Opn) (t5 : Int) (t8 : Int) (t9 : Int) (t10 : Int) (c2_0 : ByteArray) (c2_1 : ByteArray) (c2_2 : Int) (c2_3 : Int) (c2_4 : Int) (c2_5 : Int) (c2_6 : List Rect) (c2_7 : List Rect) (l132 : List Rect) (l133 : List Seg) : iter (execG (inliner M_ref08_RunCut F 0 C_program_RunCut) C_program_RunCut Tryz.f10.ntmps M_ref08_RunCut F 0 (cL (cB (cS (cF (cS (cS (cS (cS (cS (cS (bo Tryz.f10)))))))))))) (M_ref08_RunCut 0 0) F 0 (st_ref08_RunCut_0 t1 t5 t8 t9 t10 c2_0 c2_1 c2_2 c2_3 c2_4 c2_5 c2_6 c2_7 l132 l133) (k_ref08_RunCut_0 F Post) = n_ref08_RunCut_0 F (fun r0_Lines r0_Stamps r1 => Post (.tup [.agg [.sl .seg r0_Lines, .sl .rect r0_Stamps], .int .i64 r1])) t1 t5 t8 t9 t10 c2_0 c2_1 c2_2 c2_3 c2_4 c2_5 c2_6 c2_7 l132 l133 := by
  rw [loop_ref08_RunCut_0]
  have h0 : (fun t1 t5 t8 t9 t10 c2_0 c2_1 c2_2 c2_3 c2_4 c2_5 c2_6 c2_7 l132 l133 => k_ref08_RunCut_0 F Post .ret (st_ref08_RunCut_0 t1 t5 t8 t9 t10 c2_0 c2_1 c2_2 c2_3 c2_4 c2_5 c2_6 c2_7 l132 l133)) = (fun t1 t5 t8 t9 t10 c2_0 c2_1 c2_2 c2_3 c2_4 c2_5 c2_6 c2_7 l132 l133 => g_ref08_RunCut_c0_0 (fun r0_Lines r0_Stamps r1 => Post (.tup [.agg [.sl .seg r0_Lines, .sl .rect r0_Stamps], .int .i64 r1])) t1 t5 t8 t9 t10 c2_0 c2_1 c2_2 c2_3 c2_4 c2_5 c2_6 c2_7 l132 l133) := by
    funext t1 t5 t8 t9 t10 c2_0 c2_1 c2_2 c2_3 c2_4 c2_5 c2_6 c2_7 l132 l133
    rw [cont_ref08_RunCut_0_0]
  have h1 : (fun t1 t5 t8 t9 t10 c2_0 c2_1 c2_2 c2_3 c2_4 c2_5 c2_6 c2_7 l132 l133 => k_ref08_RunCut_0 F Post (.exit 0) (st_ref08_RunCut_0 t1 t5 t8 t9 t10 c2_0 c2_1 c2_2 c2_3 c2_4 c2_5 c2_6 c2_7 l132 l133)) = (fun t1 t5 t8 t9 t10 c2_0 c2_1 c2_2 c2_3 c2_4 c2_5 c2_6 c2_7 l132 l133 => g_ref08_RunCut_c0_1 (fun r0_Lines r0_Stamps r1 => Post (.tup [.agg [.sl .seg r0_Lines, .sl .rect r0_Stamps], .int .i64 r1])) t1 t5 t8 t9 t10 c2_0 c2_1 c2_2 c2_3 c2_4 c2_5 c2_6 c2_7 l132 l133) := by
    funext t1 t5 t8 t9 t10 c2_0 c2_1 c2_2 c2_3 c2_4 c2_5 c2_6 c2_7 l132 l133
    rw [cont_ref08_RunCut_0_1]
  have h2 : (fun t1 t5 t10 c2_0 c2_1 c2_2 c2_3 c2_4 c2_5 c2_6 c2_7 l132 l133 => k_ref08_RunCut_0 F Post .ret (st_ref08_RunCut_0_2 t1 t5 t10 c2_0 c2_1 c2_2 c2_3 c2_4 c2_5 c2_6 c2_7 l132 l133)) = (fun t1 t5 t10 c2_0 c2_1 c2_2 c2_3 c2_4 c2_5 c2_6 c2_7 l132 l133 => g_ref08_RunCut_c0_2 (fun r0_Lines r0_Stamps r1 => Post (.tup [.agg [.sl .seg r0_Lines, .sl .rect r0_Stamps], .int .i64 r1])) t1 t5 t10 c2_0 c2_1 c2_2 c2_3 c2_4 c2_5 c2_6 c2_7 l132 l133) := by
    funext t1 t5 t10 c2_0 c2_1 c2_2 c2_3 c2_4 c2_5 c2_6 c2_7 l132 l133
    rw [cont_ref08_RunCut_0_2]
  rw [h0, h1, h2]
  rfl
theorem exec_ref08_RunCut (F : Nat) (Post : AVal UU → Prop) (a0_Name : ByteArray) (a0_Material : ByteArray) (a0_Gauge : Int) (a0_Grain : Int) (a0_Width : Int) (a0_Height : Int) (a0_Clamps : List Rect) (a0_Used : List Rect) (a1 : List Opn) : exec C_program_RunCut Tryz.f10.ntmps M_ref08_RunCut F 0 (bo Tryz.f10) (initSt [.agg [.str a0_Name, .str a0_Material, .int .i64 a0_Gauge, .int .i64 a0_Grain, .int .i64 a0_Width, .int .i64 a0_Height, .sl .rect a0_Clamps, .sl .rect a0_Used], .sl .op a1]) (AEnds C_program_RunCut false Tryz.f10 Post) = w_ref08_RunCut F a0_Name a0_Material a0_Gauge a0_Grain a0_Width a0_Height a0_Clamps a0_Used a1 (fun r0_Lines r0_Stamps r1 => Post (.tup [.agg [.sl .seg r0_Lines, .sl .rect r0_Stamps], .int .i64 r1])) := by
  rw [entry_ref08_RunCut]
  have e0 : (fun t1 t5 t8 t9 t10 c2_0 c2_1 c2_2 c2_3 c2_4 c2_5 c2_6 c2_7 l132 l133 => iter (execG (inliner M_ref08_RunCut F 0 C_program_RunCut) C_program_RunCut Tryz.f10.ntmps M_ref08_RunCut F 0 (cL (cB (cS (cF (cS (cS (cS (cS (cS (cS (bo Tryz.f10)))))))))))) (M_ref08_RunCut 0 0) F 0 (st_ref08_RunCut_0 t1 t5 t8 t9 t10 c2_0 c2_1 c2_2 c2_3 c2_4 c2_5 c2_6 c2_7 l132 l133) (k_ref08_RunCut_0 F Post)) = (n_ref08_RunCut_0 F (fun r0_Lines r0_Stamps r1 => Post (.tup [.agg [.sl .seg r0_Lines, .sl .rect r0_Stamps], .int .i64 r1]))) := by
    funext t1 t5 t8 t9 t10 c2_0 c2_1 c2_2 c2_3 c2_4 c2_5 c2_6 c2_7 l132 l133
    exact nl_ref08_RunCut_0 F Post t1 t5 t8 t9 t10 c2_0 c2_1 c2_2 c2_3 c2_4 c2_5 c2_6 c2_7 l132 l133
  rw [e0]
  rfl
def m_ref08_RunCut : Model UU
  | [.agg [.str a0_Name, .str a0_Material, .int .i64 a0_Gauge, .int .i64 a0_Grain, .int .i64 a0_Width, .int .i64 a0_Height, .sl .rect a0_Clamps, .sl .rect a0_Used], .sl .op a1] => some ([pre_ref08_RunCut a0_Name a0_Material a0_Gauge a0_Grain a0_Width a0_Height a0_Clamps a0_Used a1], .tup [.agg [.sl .seg ((sp_ref08_RunCut a0_Name a0_Material a0_Gauge a0_Grain a0_Width a0_Height a0_Clamps a0_Used a1).1), .sl .rect ((sp_ref08_RunCut a0_Name a0_Material a0_Gauge a0_Grain a0_Width a0_Height a0_Clamps a0_Used a1).2.1)], .int .i64 ((sp_ref08_RunCut a0_Name a0_Material a0_Gauge a0_Grain a0_Width a0_Height a0_Clamps a0_Used a1).2.2)])
  | _ => none
def C_ref08_RunCut : Cfg UU := C_program_RunCut.add 10 m_ref08_RunCut
theorem s_ref08_RunCut : SumOK C_ref08_RunCut := by
  refine s_program_RunCut.addD mixed (fn := Tryz.f10) (c := bo Tryz.f10) Tryz.func10 (by kernel_rfl) (by kernel_rfl) ?_
  intro xs cs r h hc
  unfold m_ref08_RunCut at h
  split at h
  · rename_i a0_Name a0_Material a0_Gauge a0_Grain a0_Width a0_Height a0_Clamps a0_Used a1
    cases h
    obtain ⟨F, hF⟩ := ok_ref08_RunCut a0_Name a0_Material a0_Gauge a0_Grain a0_Width a0_Height a0_Clamps a0_Used a1 hc
    refine ⟨by kernel_rfl, M_ref08_RunCut, F, false, ⟨?_⟩⟩
    rw [exec_ref08_RunCut]
    refine hF _ ?_
    rfl
  · cases h
end
end Go.Proofs.YteffpgliiilnjaaGreatDoor

namespace Go.Proofs.YteffpgliiilnjaaGreatDoor
open Go.Vm Go.RowKit
set_option linter.unusedVariables false
noncomputable section
set_option maxRecDepth 100000 in
theorem entry_program_placed (F : Nat) (Post : AVal UU → Prop) (a0_Kind : Int) (a0_X : Int) (a0_Y : Int) (a0_W : Int) (a0_H : Int) (a0_N : Int) (a1_X : Int) (a1_Y : Int) : exec C_ref08_RunCut Tryz.f113.ntmps M_program_placed F 0 (bo Tryz.f113) (initSt [.agg [.int .i64 a0_Kind, .int .i64 a0_X, .int .i64 a0_Y, .int .i64 a0_W, .int .i64 a0_H, .int .i64 a0_N], .agg [.int .i64 a1_X, .int .i64 a1_Y]]) (AEnds C_ref08_RunCut false Tryz.f113 Post) = g_program_placed_e a0_Kind a0_X a0_Y a0_W a0_H a0_N a1_X a1_Y (fun r0 => Post (.sl .int r0)) := by kernel_rfl
theorem exec_program_placed (F : Nat) (Post : AVal UU → Prop) (a0_Kind : Int) (a0_X : Int) (a0_Y : Int) (a0_W : Int) (a0_H : Int) (a0_N : Int) (a1_X : Int) (a1_Y : Int) : exec C_ref08_RunCut Tryz.f113.ntmps M_program_placed F 0 (bo Tryz.f113) (initSt [.agg [.int .i64 a0_Kind, .int .i64 a0_X, .int .i64 a0_Y, .int .i64 a0_W, .int .i64 a0_H, .int .i64 a0_N], .agg [.int .i64 a1_X, .int .i64 a1_Y]]) (AEnds C_ref08_RunCut false Tryz.f113 Post) = w_program_placed F a0_Kind a0_X a0_Y a0_W a0_H a0_N a1_X a1_Y (fun r0 => Post (.sl .int r0)) := by
  rw [entry_program_placed]
  rfl
def m_program_placed : Model UU
  | [.agg [.int .i64 a0_Kind, .int .i64 a0_X, .int .i64 a0_Y, .int .i64 a0_W, .int .i64 a0_H, .int .i64 a0_N], .agg [.int .i64 a1_X, .int .i64 a1_Y]] => some ([pre_program_placed a0_Kind a0_X a0_Y a0_W a0_H a0_N a1_X a1_Y], .sl .int (sp_program_placed a0_Kind a0_X a0_Y a0_W a0_H a0_N a1_X a1_Y))
  | _ => none
def C_program_placed : Cfg UU := C_ref08_RunCut.add 113 m_program_placed
theorem s_program_placed : SumOK C_program_placed := by
  refine s_ref08_RunCut.addD mixed (fn := Tryz.f113) (c := bo Tryz.f113) Tryz.func113 (by kernel_rfl) (by kernel_rfl) ?_
  intro xs cs r h hc
  unfold m_program_placed at h
  split at h
  · rename_i a0_Kind a0_X a0_Y a0_W a0_H a0_N a1_X a1_Y
    cases h
    obtain ⟨F, hF⟩ := ok_program_placed a0_Kind a0_X a0_Y a0_W a0_H a0_N a1_X a1_Y hc
    refine ⟨by kernel_rfl, M_program_placed, F, false, ⟨?_⟩⟩
    rw [exec_program_placed]
    refine hF _ ?_
    rfl
  · cases h
set_option maxRecDepth 100000 in
theorem entry_program_dialects_1 (F : Nat) (Post : AVal UU → Prop) (a0_Kind : Int) (a0_X : Int) (a0_Y : Int) (a0_W : Int) (a0_H : Int) (a0_N : Int) (a1_X : Int) (a1_Y : Int) : exec C_program_placed Tryz.f112.ntmps M_program_dialects_1 F 0 (bo Tryz.f112) (initSt [.agg [.int .i64 a0_Kind, .int .i64 a0_X, .int .i64 a0_Y, .int .i64 a0_W, .int .i64 a0_H, .int .i64 a0_N], .agg [.int .i64 a1_X, .int .i64 a1_Y]]) (AEnds C_program_placed false Tryz.f112 Post) = g_program_dialects_1_e a0_Kind a0_X a0_Y a0_W a0_H a0_N a1_X a1_Y (fun r0 => Post (.sl .int r0)) := by kernel_rfl
theorem exec_program_dialects_1 (F : Nat) (Post : AVal UU → Prop) (a0_Kind : Int) (a0_X : Int) (a0_Y : Int) (a0_W : Int) (a0_H : Int) (a0_N : Int) (a1_X : Int) (a1_Y : Int) : exec C_program_placed Tryz.f112.ntmps M_program_dialects_1 F 0 (bo Tryz.f112) (initSt [.agg [.int .i64 a0_Kind, .int .i64 a0_X, .int .i64 a0_Y, .int .i64 a0_W, .int .i64 a0_H, .int .i64 a0_N], .agg [.int .i64 a1_X, .int .i64 a1_Y]]) (AEnds C_program_placed false Tryz.f112 Post) = w_program_dialects_1 F a0_Kind a0_X a0_Y a0_W a0_H a0_N a1_X a1_Y (fun r0 => Post (.sl .int r0)) := by
  rw [entry_program_dialects_1]
  rfl
def m_program_dialects_1 : Model UU
  | [.agg [.int .i64 a0_Kind, .int .i64 a0_X, .int .i64 a0_Y, .int .i64 a0_W, .int .i64 a0_H, .int .i64 a0_N], .agg [.int .i64 a1_X, .int .i64 a1_Y]] => some ([pre_program_dialects_1 a0_Kind a0_X a0_Y a0_W a0_H a0_N a1_X a1_Y], .sl .int (sp_program_dialects_1 a0_Kind a0_X a0_Y a0_W a0_H a0_N a1_X a1_Y))
  | _ => none
def C_program_dialects_1 : Cfg UU := C_program_placed.add 112 m_program_dialects_1
theorem s_program_dialects_1 : SumOK C_program_dialects_1 := by
  refine s_program_placed.addD mixed (fn := Tryz.f112) (c := bo Tryz.f112) Tryz.func112 (by kernel_rfl) (by kernel_rfl) ?_
  intro xs cs r h hc
  unfold m_program_dialects_1 at h
  split at h
  · rename_i a0_Kind a0_X a0_Y a0_W a0_H a0_N a1_X a1_Y
    cases h
    obtain ⟨F, hF⟩ := ok_program_dialects_1 a0_Kind a0_X a0_Y a0_W a0_H a0_N a1_X a1_Y hc
    refine ⟨by kernel_rfl, M_program_dialects_1, F, false, ⟨?_⟩⟩
    rw [exec_program_dialects_1]
    refine hF _ ?_
    rfl
  · cases h
set_option maxRecDepth 100000 in
theorem entry_program_pressed (F : Nat) (Post : AVal UU → Prop) (a0_Kind : Int) (a0_X : Int) (a0_Y : Int) (a0_W : Int) (a0_H : Int) (a0_N : Int) (a1_X : Int) (a1_Y : Int) : exec C_program_dialects_1 Tryz.f116.ntmps M_program_pressed F 0 (bo Tryz.f116) (initSt [.agg [.int .i64 a0_Kind, .int .i64 a0_X, .int .i64 a0_Y, .int .i64 a0_W, .int .i64 a0_H, .int .i64 a0_N], .agg [.int .i64 a1_X, .int .i64 a1_Y]]) (AEnds C_program_dialects_1 false Tryz.f116 Post) = g_program_pressed_e a0_Kind a0_X a0_Y a0_W a0_H a0_N a1_X a1_Y (fun r0 => Post (.sl .int r0)) := by kernel_rfl
theorem exec_program_pressed (F : Nat) (Post : AVal UU → Prop) (a0_Kind : Int) (a0_X : Int) (a0_Y : Int) (a0_W : Int) (a0_H : Int) (a0_N : Int) (a1_X : Int) (a1_Y : Int) : exec C_program_dialects_1 Tryz.f116.ntmps M_program_pressed F 0 (bo Tryz.f116) (initSt [.agg [.int .i64 a0_Kind, .int .i64 a0_X, .int .i64 a0_Y, .int .i64 a0_W, .int .i64 a0_H, .int .i64 a0_N], .agg [.int .i64 a1_X, .int .i64 a1_Y]]) (AEnds C_program_dialects_1 false Tryz.f116 Post) = w_program_pressed F a0_Kind a0_X a0_Y a0_W a0_H a0_N a1_X a1_Y (fun r0 => Post (.sl .int r0)) := by
  rw [entry_program_pressed]
  rfl
def m_program_pressed : Model UU
  | [.agg [.int .i64 a0_Kind, .int .i64 a0_X, .int .i64 a0_Y, .int .i64 a0_W, .int .i64 a0_H, .int .i64 a0_N], .agg [.int .i64 a1_X, .int .i64 a1_Y]] => some ([], .sl .int (sp_program_pressed a0_Kind a0_X a0_Y a0_W a0_H a0_N a1_X a1_Y))
  | _ => none
def C_program_pressed : Cfg UU := C_program_dialects_1.add 116 m_program_pressed
theorem s_program_pressed : SumOK C_program_pressed := by
  refine s_program_dialects_1.addD mixed (fn := Tryz.f116) (c := bo Tryz.f116) Tryz.func116 (by kernel_rfl) (by kernel_rfl) ?_
  intro xs cs r h hc
  unfold m_program_pressed at h
  split at h
  · rename_i a0_Kind a0_X a0_Y a0_W a0_H a0_N a1_X a1_Y
    cases h
    obtain ⟨F, hF⟩ := ok_program_pressed a0_Kind a0_X a0_Y a0_W a0_H a0_N a1_X a1_Y
    refine ⟨by kernel_rfl, M_program_pressed, F, false, ⟨?_⟩⟩
    rw [exec_program_pressed]
    refine hF _ ?_
    rfl
  · cases h
end
end Go.Proofs.YteffpgliiilnjaaGreatDoor

namespace Go.Proofs.YteffpgliiilnjaaGreatDoor
open Go.Vm Go.RowKit
set_option linter.unusedVariables false
noncomputable section
def k_fo1_0 (F : Nat) (Post : AVal UU → Prop) : AEx → ASt UU → Prop := kBlock 0 (kSeq (inliner M_fo1 F 0 C_program_pressed) C_program_pressed Tryz.f20.ntmps M_fo1 F 0 (cS (cS (cS (cS (cS (cS (cS (bo Tryz.f20)))))))) (AEnds C_program_pressed false Tryz.f20 Post))
def k_fo1_1 (F n r : Nat) (K : AEx → ASt UU → Prop) : AEx → ASt UU → Prop := kBlock 2 (kSeq (inliner M_fo1 F 0 C_program_pressed) C_program_pressed Tryz.f20.ntmps M_fo1 F 1 (cS (cS (cS (cS (cS (cB (cF (cS (cS (cL (cB (cS (cF (cS (cS (cS (cS (cS (cS (bo Tryz.f20)))))))))))))))))))) (kBlock 1 (kSeq (inliner M_fo1 F 0 C_program_pressed) C_program_pressed Tryz.f20.ntmps M_fo1 F 0 (cS (cS (cS (cL (cB (cS (cF (cS (cS (cS (cS (cS (cS (bo Tryz.f20)))))))))))))) (kIter (execG (inliner M_fo1 F 0 C_program_pressed) C_program_pressed Tryz.f20.ntmps M_fo1 F 0 (cL (cB (cS (cF (cS (cS (cS (cS (cS (cS (bo Tryz.f20)))))))))))) (M_fo1 0 0) n r K))))
set_option maxRecDepth 100000 in
theorem step_fo1_0 (F n r : Nat) (K : AEx → ASt UU → Prop) (t4 : ByteArray) (t5 : Int) (t28 : List Opn) (t29 : Int) (t30 : Int) (o8 : ByteArray) (c9_0 : Int) (c9_1 : Int) : iter (execG (inliner M_fo1 F 0 C_program_pressed) C_program_pressed Tryz.f20.ntmps M_fo1 F 0 (cL (cB (cS (cF (cS (cS (cS (cS (cS (cS (bo Tryz.f20)))))))))))) (M_fo1 0 0) (n + 1) r (st_fo1_0 t4 t5 t28 t29 t30 o8 c9_0 c9_1) K = g_fo1_s0 (fun t4 t5 t28 t29 t30 o8 c9_0 c9_1 => iter (execG (inliner M_fo1 F 0 C_program_pressed) C_program_pressed Tryz.f20.ntmps M_fo1 F 0 (cL (cB (cS (cF (cS (cS (cS (cS (cS (cS (bo Tryz.f20)))))))))))) (M_fo1 0 0) n (r + 1) (st_fo1_0 t4 t5 t28 t29 t30 o8 c9_0 c9_1) K) (fun t4 t5 t28 t29 t30 o8 c9_0 c9_1 => K .ret (st_fo1_0 t4 t5 t28 t29 t30 o8 c9_0 c9_1)) (fun t4 t5 t28 t29 t30 o8 c9_0 c9_1 => K (.exit 0) (st_fo1_0 t4 t5 t28 t29 t30 o8 c9_0 c9_1)) t4 t5 t28 t29 t30 o8 c9_0 c9_1 (fun t4 t5 t28 t29 t30 t60 t61 t62 o8 c9_0 c9_1 c11_0 c11_1 c11_2 c11_3 c11_4 c11_5 => iter (execG (inliner M_fo1 F 0 C_program_pressed) C_program_pressed Tryz.f20.ntmps M_fo1 F 2 (cL (cB (cS (cF (cS (cS (cS (cS (cB (cF (cS (cS (cL (cB (cS (cF (cS (cS (cS (cS (cS (cS (bo Tryz.f20)))))))))))))))))))))))) (M_fo1 0 2) F 0 (st_fo1_1 t4 t5 t28 t29 t30 t60 t61 t62 o8 c9_0 c9_1 c11_0 c11_1 c11_2 c11_3 c11_4 c11_5) (k_fo1_1 F n r K)) := by kernel_rfl
set_option maxRecDepth 100000 in
theorem cont_fo1_0_0 (F : Nat) (Post : AVal UU → Prop) (t4 : ByteArray) (t5 : Int) (t28 : List Opn) (t29 : Int) (t30 : Int) (o8 : ByteArray) (c9_0 : Int) (c9_1 : Int) : k_fo1_0 F Post .ret (st_fo1_0 t4 t5 t28 t29 t30 o8 c9_0 c9_1) = g_fo1_c0_0 (fun r0 r1 => Post (.tup [.str r0, .int .i64 r1])) t4 t5 t28 t29 t30 o8 c9_0 c9_1 := by kernel_rfl
set_option maxRecDepth 100000 in
theorem cont_fo1_0_1 (F : Nat) (Post : AVal UU → Prop) (t4 : ByteArray) (t5 : Int) (t28 : List Opn) (t29 : Int) (t30 : Int) (o8 : ByteArray) (c9_0 : Int) (c9_1 : Int) : k_fo1_0 F Post (.exit 0) (st_fo1_0 t4 t5 t28 t29 t30 o8 c9_0 c9_1) = g_fo1_c0_1 (fun r0 r1 => Post (.tup [.str r0, .int .i64 r1])) t4 t5 t28 t29 t30 o8 c9_0 c9_1 := by kernel_rfl
set_option maxRecDepth 100000 in
theorem step_fo1_1 (F n r : Nat) (K : AEx → ASt UU → Prop) (t4 : ByteArray) (t5 : Int) (t28 : List Opn) (t29 : Int) (t30 : Int) (t60 : List Int) (t61 : Int) (t62 : Int) (o8 : ByteArray) (c9_0 : Int) (c9_1 : Int) (c11_0 : Int) (c11_1 : Int) (c11_2 : Int) (c11_3 : Int) (c11_4 : Int) (c11_5 : Int) : iter (execG (inliner M_fo1 F 0 C_program_pressed) C_program_pressed Tryz.f20.ntmps M_fo1 F 2 (cL (cB (cS (cF (cS (cS (cS (cS (cB (cF (cS (cS (cL (cB (cS (cF (cS (cS (cS (cS (cS (cS (bo Tryz.f20)))))))))))))))))))))))) (M_fo1 0 2) (n + 1) r (st_fo1_1 t4 t5 t28 t29 t30 t60 t61 t62 o8 c9_0 c9_1 c11_0 c11_1 c11_2 c11_3 c11_4 c11_5) K = g_fo1_s1 (fun t4 t5 t28 t29 t30 t60 t61 t62 o8 c9_0 c9_1 c11_0 c11_1 c11_2 c11_3 c11_4 c11_5 => iter (execG (inliner M_fo1 F 0 C_program_pressed) C_program_pressed Tryz.f20.ntmps M_fo1 F 2 (cL (cB (cS (cF (cS (cS (cS (cS (cB (cF (cS (cS (cL (cB (cS (cF (cS (cS (cS (cS (cS (cS (bo Tryz.f20)))))))))))))))))))))))) (M_fo1 0 2) n (r + 1) (st_fo1_1 t4 t5 t28 t29 t30 t60 t61 t62 o8 c9_0 c9_1 c11_0 c11_1 c11_2 c11_3 c11_4 c11_5) K) (fun t4 t5 t28 t29 t30 t60 t61 t62 o8 c9_0 c9_1 c11_0 c11_1 c11_2 c11_3 c11_4 c11_5 => K (.exit 2) (st_fo1_1 t4 t5 t28 t29 t30 t60 t61 t62 o8 c9_0 c9_1 c11_0 c11_1 c11_2 c11_3 c11_4 c11_5)) t4 t5 t28 t29 t30 t60 t61 t62 o8 c9_0 c9_1 c11_0 c11_1 c11_2 c11_3 c11_4 c11_5 := by kernel_rfl
set_option maxRecDepth 100000 in
theorem cont_fo1_1_0 (F n r : Nat) (K : AEx → ASt UU → Prop) (t4 : ByteArray) (t5 : Int) (t28 : List Opn) (t29 : Int) (t30 : Int) (t60 : List Int) (t61 : Int) (t62 : Int) (o8 : ByteArray) (c9_0 : Int) (c9_1 : Int) (c11_0 : Int) (c11_1 : Int) (c11_2 : Int) (c11_3 : Int) (c11_4 : Int) (c11_5 : Int) : k_fo1_1 F n r K (.exit 2) (st_fo1_1 t4 t5 t28 t29 t30 t60 t61 t62 o8 c9_0 c9_1 c11_0 c11_1 c11_2 c11_3 c11_4 c11_5) = g_fo1_c1_0 (fun t4 t5 t28 t29 t30 o8 c9_0 c9_1 => iter (execG (inliner M_fo1 F 0 C_program_pressed) C_program_pressed Tryz.f20.ntmps M_fo1 F 0 (cL (cB (cS (cF (cS (cS (cS (cS (cS (cS (bo Tryz.f20)))))))))))) (M_fo1 0 0) n (r + 1) (st_fo1_0 t4 t5 t28 t29 t30 o8 c9_0 c9_1) K) (fun t4 t5 t28 t29 t30 o8 c9_0 c9_1 => K .ret (st_fo1_0 t4 t5 t28 t29 t30 o8 c9_0 c9_1)) (fun t4 t5 t28 t29 t30 o8 c9_0 c9_1 => K (.exit 0) (st_fo1_0 t4 t5 t28 t29 t30 o8 c9_0 c9_1)) t4 t5 t28 t29 t30 t60 t61 t62 o8 c9_0 c9_1 c11_0 c11_1 c11_2 c11_3 c11_4 c11_5 := by kernel_rfl
set_option maxRecDepth 100000 in
theorem entry_fo1 (F : Nat) (Post : AVal UU → Prop) (ops : List Opn) : exec C_program_pressed Tryz.f20.ntmps M_fo1 F 0 (bo Tryz.f20) (initSt [.int .i64 1, .sl .op ops]) (AEnds C_program_pressed false Tryz.f20 Post) = g_fo1_e ops (fun r0 r1 => Post (.tup [.str r0, .int .i64 r1])) (fun t4 t5 t28 t29 t30 o8 c9_0 c9_1 => iter (execG (inliner M_fo1 F 0 C_program_pressed) C_program_pressed Tryz.f20.ntmps M_fo1 F 0 (cL (cB (cS (cF (cS (cS (cS (cS (cS (cS (bo Tryz.f20)))))))))))) (M_fo1 0 0) F 0 (st_fo1_0 t4 t5 t28 t29 t30 o8 c9_0 c9_1) (k_fo1_0 F Post)) := by kernel_rfl
theorem loop_fo1_1 (F : Nat) (K : AEx → ASt UU → Prop) : ∀ (n r : Nat) (t4 : ByteArray) (t5 : Int) (t28 : List Opn) (t29 : Int) (t30 : Int) (t60 : List Int) (t61 : Int) (t62 : Int) (o8 : ByteArray) (c9_0 : Int) (c9_1 : Int) (c11_0 : Int) (c11_1 : Int) (c11_2 : Int) (c11_3 : Int) (c11_4 : Int) (c11_5 : Int), iter (execG (inliner M_fo1 F 0 C_program_pressed) C_program_pressed Tryz.f20.ntmps M_fo1 F 2 (cL (cB (cS (cF (cS (cS (cS (cS (cB (cF (cS (cS (cL (cB (cS (cF (cS (cS (cS (cS (cS (cS (bo Tryz.f20)))))))))))))))))))))))) (M_fo1 0 2) n r (st_fo1_1 t4 t5 t28 t29 t30 t60 t61 t62 o8 c9_0 c9_1 c11_0 c11_1 c11_2 c11_3 c11_4 c11_5) K = w_fo1_1 F  (fun t4 t5 t28 t29 t30 t60 t61 t62 o8 c9_0 c9_1 c11_0 c11_1 c11_2 c11_3 c11_4 c11_5 => K (.exit 2) (st_fo1_1 t4 t5 t28 t29 t30 t60 t61 t62 o8 c9_0 c9_1 c11_0 c11_1 c11_2 c11_3 c11_4 c11_5)) n t4 t5 t28 t29 t30 t60 t61 t62 o8 c9_0 c9_1 c11_0 c11_1 c11_2 c11_3 c11_4 c11_5 := by
  intro n
  induction n with
  | zero => intros; rfl
  | succ n ih =>
    intro r t4 t5 t28 t29 t30 t60 t61 t62 o8 c9_0 c9_1 c11_0 c11_1 c11_2 c11_3 c11_4 c11_5
    have e : (fun t4 t5 t28 t29 t30 t60 t61 t62 o8 c9_0 c9_1 c11_0 c11_1 c11_2 c11_3 c11_4 c11_5 => iter (execG (inliner M_fo1 F 0 C_program_pressed) C_program_pressed Tryz.f20.ntmps M_fo1 F 2 (cL (cB (cS (cF (cS (cS (cS (cS (cB (cF (cS (cS (cL (cB (cS (cF (cS (cS (cS (cS (cS (cS (bo Tryz.f20)))))))))))))))))))))))) (M_fo1 0 2) n (r + 1) (st_fo1_1 t4 t5 t28 t29 t30 t60 t61 t62 o8 c9_0 c9_1 c11_0 c11_1 c11_2 c11_3 c11_4 c11_5) K) = w_fo1_1 F  (fun t4 t5 t28 t29 t30 t60 t61 t62 o8 c9_0 c9_1 c11_0 c11_1 c11_2 c11_3 c11_4 c11_5 => K (.exit 2) (st_fo1_1 t4 t5 t28 t29 t30 t60 t61 t62 o8 c9_0 c9_1 c11_0 c11_1 c11_2 c11_3 c11_4 c11_5)) n := by
      funext t4 t5 t28 t29 t30 t60 t61 t62 o8 c9_0 c9_1 c11_0 c11_1 c11_2 c11_3 c11_4 c11_5
      exact ih (r + 1) t4 t5 t28 t29 t30 t60 t61 t62 o8 c9_0 c9_1 c11_0 c11_1 c11_2 c11_3 c11_4 c11_5
    rw [step_fo1_1, e]
    rfl
theorem nl_fo1_1 (F n r : Nat) (K : AEx → ASt UU → Prop) (t4 : ByteArray) (t5 : Int) (t28 : List Opn) (t29 : Int) (t30 : Int) (t60 : List Int) (t61 : Int) (t62 : Int) (o8 : ByteArray) (c9_0 : Int) (c9_1 : Int) (c11_0 : Int) (c11_1 : Int) (c11_2 : Int) (c11_3 : Int) (c11_4 : Int) (c11_5 : Int) : iter (execG (inliner M_fo1 F 0 C_program_pressed) C_program_pressed Tryz.f20.ntmps M_fo1 F 2 (cL (cB (cS (cF (cS (cS (cS (cS (cB (cF (cS (cS (cL (cB (cS (cF (cS (cS (cS (cS (cS (cS (bo Tryz.f20)))))))))))))))))))))))) (M_fo1 0 2) F 0 (st_fo1_1 t4 t5 t28 t29 t30 t60 t61 t62 o8 c9_0 c9_1 c11_0 c11_1 c11_2 c11_3 c11_4 c11_5) (k_fo1_1 F n r K) = n_fo1_1 F (fun t4 t5 t28 t29 t30 o8 c9_0 c9_1 => iter (execG (inliner M_fo1 F 0 C_program_pressed) C_program_pressed Tryz.f20.ntmps M_fo1 F 0 (cL (cB (cS (cF (cS (cS (cS (cS (cS (cS (bo Tryz.f20)))))))))))) (M_fo1 0 0) n (r + 1) (st_fo1_0 t4 t5 t28 t29 t30 o8 c9_0 c9_1) K) (fun t4 t5 t28 t29 t30 o8 c9_0 c9_1 => K .ret (st_fo1_0 t4 t5 t28 t29 t30 o8 c9_0 c9_1)) (fun t4 t5 t28 t29 t30 o8 c9_0 c9_1 => K (.exit 0) (st_fo1_0 t4 t5 t28 t29 t30 o8 c9_0 c9_1)) t4 t5 t28 t29 t30 t60 t61 t62 o8 c9_0 c9_1 c11_0 c11_1 c11_2 c11_3 c11_4 c11_5 := by
  rw [loop_fo1_1]
  have h0 : (fun t4 t5 t28 t29 t30 t60 t61 t62 o8 c9_0 c9_1 c11_0 c11_1 c11_2 c11_3 c11_4 c11_5 => k_fo1_1 F n r K (.exit 2) (st_fo1_1 t4 t5 t28 t29 t30 t60 t61 t62 o8 c9_0 c9_1 c11_0 c11_1 c11_2 c11_3 c11_4 c11_5)) = (fun t4 t5 t28 t29 t30 t60 t61 t62 o8 c9_0 c9_1 c11_0 c11_1 c11_2 c11_3 c11_4 c11_5 => g_fo1_c1_0 (fun t4 t5 t28 t29 t30 o8 c9_0 c9_1 => iter (execG (inliner M_fo1 F 0 C_program_pressed) C_program_pressed Tryz.f20.ntmps M_fo1 F 0 (cL (cB (cS (cF (cS (cS (cS (cS (cS (cS (bo Tryz.f20)))))))))))) (M_fo1 0 0) n (r + 1) (st_fo1_0 t4 t5 t28 t29 t30 o8 c9_0 c9_1) K) (fun t4 t5 t28 t29 t30 o8 c9_0 c9_1 => K .ret (st_fo1_0 t4 t5 t28 t29 t30 o8 c9_0 c9_1)) (fun t4 t5 t28 t29 t30 o8 c9_0 c9_1 => K (.exit 0) (st_fo1_0 t4 t5 t28 t29 t30 o8 c9_0 c9_1)) t4 t5 t28 t29 t30 t60 t61 t62 o8 c9_0 c9_1 c11_0 c11_1 c11_2 c11_3 c11_4 c11_5) := by
    funext t4 t5 t28 t29 t30 t60 t61 t62 o8 c9_0 c9_1 c11_0 c11_1 c11_2 c11_3 c11_4 c11_5
    rw [cont_fo1_1_0]
  rw [h0]
  rfl
theorem loop_fo1_0 (F : Nat) (K : AEx → ASt UU → Prop) : ∀ (n r : Nat) (t4 : ByteArray) (t5 : Int) (t28 : List Opn) (t29 : Int) (t30 : Int) (o8 : ByteArray) (c9_0 : Int) (c9_1 : Int), iter (execG (inliner M_fo1 F 0 C_program_pressed) C_program_pressed Tryz.f20.ntmps M_fo1 F 0 (cL (cB (cS (cF (cS (cS (cS (cS (cS (cS (bo Tryz.f20)))))))))))) (M_fo1 0 0) n r (st_fo1_0 t4 t5 t28 t29 t30 o8 c9_0 c9_1) K = w_fo1_0 F  (fun t4 t5 t28 t29 t30 o8 c9_0 c9_1 => K .ret (st_fo1_0 t4 t5 t28 t29 t30 o8 c9_0 c9_1)) (fun t4 t5 t28 t29 t30 o8 c9_0 c9_1 => K (.exit 0) (st_fo1_0 t4 t5 t28 t29 t30 o8 c9_0 c9_1)) n t4 t5 t28 t29 t30 o8 c9_0 c9_1 := by
  intro n
  induction n with
  | zero => intros; rfl
  | succ n ih =>
    intro r t4 t5 t28 t29 t30 o8 c9_0 c9_1
    have e : (fun t4 t5 t28 t29 t30 o8 c9_0 c9_1 => iter (execG (inliner M_fo1 F 0 C_program_pressed) C_program_pressed Tryz.f20.ntmps M_fo1 F 0 (cL (cB (cS (cF (cS (cS (cS (cS (cS (cS (bo Tryz.f20)))))))))))) (M_fo1 0 0) n (r + 1) (st_fo1_0 t4 t5 t28 t29 t30 o8 c9_0 c9_1) K) = w_fo1_0 F  (fun t4 t5 t28 t29 t30 o8 c9_0 c9_1 => K .ret (st_fo1_0 t4 t5 t28 t29 t30 o8 c9_0 c9_1)) (fun t4 t5 t28 t29 t30 o8 c9_0 c9_1 => K (.exit 0) (st_fo1_0 t4 t5 t28 t29 t30 o8 c9_0 c9_1)) n := by
      funext t4 t5 t28 t29 t30 o8 c9_0 c9_1
      exact ih (r + 1) t4 t5 t28 t29 t30 o8 c9_0 c9_1
    have e1 : (fun t4 t5 t28 t29 t30 t60 t61 t62 o8 c9_0 c9_1 c11_0 c11_1 c11_2 c11_3 c11_4 c11_5 => iter (execG (inliner M_fo1 F 0 C_program_pressed) C_program_pressed Tryz.f20.ntmps M_fo1 F 2 (cL (cB (cS (cF (cS (cS (cS (cS (cB (cF (cS (cS (cL (cB (cS (cF (cS (cS (cS (cS (cS (cS (bo Tryz.f20)))))))))))))))))))))))) (M_fo1 0 2) F 0 (st_fo1_1 t4 t5 t28 t29 t30 t60 t61 t62 o8 c9_0 c9_1 c11_0 c11_1 c11_2 c11_3 c11_4 c11_5) (k_fo1_1 F n r K)) = (n_fo1_1 F (fun t4 t5 t28 t29 t30 o8 c9_0 c9_1 => iter (execG (inliner M_fo1 F 0 C_program_pressed) C_program_pressed Tryz.f20.ntmps M_fo1 F 0 (cL (cB (cS (cF (cS (cS (cS (cS (cS (cS (bo Tryz.f20)))))))))))) (M_fo1 0 0) n (r + 1) (st_fo1_0 t4 t5 t28 t29 t30 o8 c9_0 c9_1) K) (fun t4 t5 t28 t29 t30 o8 c9_0 c9_1 => K .ret (st_fo1_0 t4 t5 t28 t29 t30 o8 c9_0 c9_1)) (fun t4 t5 t28 t29 t30 o8 c9_0 c9_1 => K (.exit 0) (st_fo1_0 t4 t5 t28 t29 t30 o8 c9_0 c9_1))) := by
      funext t4 t5 t28 t29 t30 t60 t61 t62 o8 c9_0 c9_1 c11_0 c11_1 c11_2 c11_3 c11_4 c11_5
      exact nl_fo1_1 F n r K t4 t5 t28 t29 t30 t60 t61 t62 o8 c9_0 c9_1 c11_0 c11_1 c11_2 c11_3 c11_4 c11_5
    rw [step_fo1_0, e1, e]
    rfl
theorem nl_fo1_0 (F : Nat) (Post : AVal UU → Prop) (t4 : ByteArray) (t5 : Int) (t28 : List Opn) (t29 : Int) (t30 : Int) (o8 : ByteArray) (c9_0 : Int) (c9_1 : Int) : iter (execG (inliner M_fo1 F 0 C_program_pressed) C_program_pressed Tryz.f20.ntmps M_fo1 F 0 (cL (cB (cS (cF (cS (cS (cS (cS (cS (cS (bo Tryz.f20)))))))))))) (M_fo1 0 0) F 0 (st_fo1_0 t4 t5 t28 t29 t30 o8 c9_0 c9_1) (k_fo1_0 F Post) = n_fo1_0 F (fun r0 r1 => Post (.tup [.str r0, .int .i64 r1])) t4 t5 t28 t29 t30 o8 c9_0 c9_1 := by
  rw [loop_fo1_0]
  have h0 : (fun t4 t5 t28 t29 t30 o8 c9_0 c9_1 => k_fo1_0 F Post .ret (st_fo1_0 t4 t5 t28 t29 t30 o8 c9_0 c9_1)) = (fun t4 t5 t28 t29 t30 o8 c9_0 c9_1 => g_fo1_c0_0 (fun r0 r1 => Post (.tup [.str r0, .int .i64 r1])) t4 t5 t28 t29 t30 o8 c9_0 c9_1) := by
    funext t4 t5 t28 t29 t30 o8 c9_0 c9_1
    rw [cont_fo1_0_0]
  have h1 : (fun t4 t5 t28 t29 t30 o8 c9_0 c9_1 => k_fo1_0 F Post (.exit 0) (st_fo1_0 t4 t5 t28 t29 t30 o8 c9_0 c9_1)) = (fun t4 t5 t28 t29 t30 o8 c9_0 c9_1 => g_fo1_c0_1 (fun r0 r1 => Post (.tup [.str r0, .int .i64 r1])) t4 t5 t28 t29 t30 o8 c9_0 c9_1) := by
    funext t4 t5 t28 t29 t30 o8 c9_0 c9_1
    rw [cont_fo1_0_1]
  rw [h0, h1]
  rfl
theorem exec_fo1 (F : Nat) (Post : AVal UU → Prop) (ops : List Opn) : exec C_program_pressed Tryz.f20.ntmps M_fo1 F 0 (bo Tryz.f20) (initSt [.int .i64 1, .sl .op ops]) (AEnds C_program_pressed false Tryz.f20 Post) = w_fo1 F ops (fun r0 r1 => Post (.tup [.str r0, .int .i64 r1])) := by
  rw [entry_fo1]
  have e0 : (fun t4 t5 t28 t29 t30 o8 c9_0 c9_1 => iter (execG (inliner M_fo1 F 0 C_program_pressed) C_program_pressed Tryz.f20.ntmps M_fo1 F 0 (cL (cB (cS (cF (cS (cS (cS (cS (cS (cS (bo Tryz.f20)))))))))))) (M_fo1 0 0) F 0 (st_fo1_0 t4 t5 t28 t29 t30 o8 c9_0 c9_1) (k_fo1_0 F Post)) = (n_fo1_0 F (fun r0 r1 => Post (.tup [.str r0, .int .i64 r1]))) := by
    funext t4 t5 t28 t29 t30 o8 c9_0 c9_1
    exact nl_fo1_0 F Post t4 t5 t28 t29 t30 o8 c9_0 c9_1
  rw [e0]
  rfl
def k_fo2_0 (F : Nat) (Post : AVal UU → Prop) : AEx → ASt UU → Prop := kBlock 0 (kSeq (inliner M_fo2 F 0 C_program_pressed) C_program_pressed Tryz.f20.ntmps M_fo2 F 0 (cS (cS (cS (cS (cS (cS (cS (bo Tryz.f20)))))))) (AEnds C_program_pressed false Tryz.f20 Post))
def k_fo2_1 (F n r : Nat) (K : AEx → ASt UU → Prop) : AEx → ASt UU → Prop := kBlock 2 (kSeq (inliner M_fo2 F 0 C_program_pressed) C_program_pressed Tryz.f20.ntmps M_fo2 F 1 (cS (cS (cS (cS (cS (cB (cF (cS (cS (cL (cB (cS (cF (cS (cS (cS (cS (cS (cS (bo Tryz.f20)))))))))))))))))))) (kBlock 1 (kSeq (inliner M_fo2 F 0 C_program_pressed) C_program_pressed Tryz.f20.ntmps M_fo2 F 0 (cS (cS (cS (cL (cB (cS (cF (cS (cS (cS (cS (cS (cS (bo Tryz.f20)))))))))))))) (kIter (execG (inliner M_fo2 F 0 C_program_pressed) C_program_pressed Tryz.f20.ntmps M_fo2 F 0 (cL (cB (cS (cF (cS (cS (cS (cS (cS (cS (bo Tryz.f20)))))))))))) (M_fo2 0 0) n r K))))
set_option maxRecDepth 100000 in
theorem step_fo2_0 (F n r : Nat) (K : AEx → ASt UU → Prop) (t4 : ByteArray) (t5 : Int) (t28 : List Opn) (t29 : Int) (t30 : Int) (o8 : ByteArray) (c9_0 : Int) (c9_1 : Int) : iter (execG (inliner M_fo2 F 0 C_program_pressed) C_program_pressed Tryz.f20.ntmps M_fo2 F 0 (cL (cB (cS (cF (cS (cS (cS (cS (cS (cS (bo Tryz.f20)))))))))))) (M_fo2 0 0) (n + 1) r (st_fo2_0 t4 t5 t28 t29 t30 o8 c9_0 c9_1) K = g_fo2_s0 (fun t4 t5 t28 t29 t30 o8 c9_0 c9_1 => iter (execG (inliner M_fo2 F 0 C_program_pressed) C_program_pressed Tryz.f20.ntmps M_fo2 F 0 (cL (cB (cS (cF (cS (cS (cS (cS (cS (cS (bo Tryz.f20)))))))))))) (M_fo2 0 0) n (r + 1) (st_fo2_0 t4 t5 t28 t29 t30 o8 c9_0 c9_1) K) (fun t4 t5 t28 t29 t30 o8 c9_0 c9_1 => K .ret (st_fo2_0 t4 t5 t28 t29 t30 o8 c9_0 c9_1)) (fun t4 t5 t28 t29 t30 o8 c9_0 c9_1 => K (.exit 0) (st_fo2_0 t4 t5 t28 t29 t30 o8 c9_0 c9_1)) t4 t5 t28 t29 t30 o8 c9_0 c9_1 (fun t4 t5 t28 t29 t30 t60 t61 t62 o8 c9_0 c9_1 c11_0 c11_1 c11_2 c11_3 c11_4 c11_5 => iter (execG (inliner M_fo2 F 0 C_program_pressed) C_program_pressed Tryz.f20.ntmps M_fo2 F 2 (cL (cB (cS (cF (cS (cS (cS (cS (cB (cF (cS (cS (cL (cB (cS (cF (cS (cS (cS (cS (cS (cS (bo Tryz.f20)))))))))))))))))))))))) (M_fo2 0 2) F 0 (st_fo2_1 t4 t5 t28 t29 t30 t60 t61 t62 o8 c9_0 c9_1 c11_0 c11_1 c11_2 c11_3 c11_4 c11_5) (k_fo2_1 F n r K)) := by kernel_rfl
set_option maxRecDepth 100000 in
theorem cont_fo2_0_0 (F : Nat) (Post : AVal UU → Prop) (t4 : ByteArray) (t5 : Int) (t28 : List Opn) (t29 : Int) (t30 : Int) (o8 : ByteArray) (c9_0 : Int) (c9_1 : Int) : k_fo2_0 F Post .ret (st_fo2_0 t4 t5 t28 t29 t30 o8 c9_0 c9_1) = g_fo2_c0_0 (fun r0 r1 => Post (.tup [.str r0, .int .i64 r1])) t4 t5 t28 t29 t30 o8 c9_0 c9_1 := by kernel_rfl
set_option maxRecDepth 100000 in
theorem cont_fo2_0_1 (F : Nat) (Post : AVal UU → Prop) (t4 : ByteArray) (t5 : Int) (t28 : List Opn) (t29 : Int) (t30 : Int) (o8 : ByteArray) (c9_0 : Int) (c9_1 : Int) : k_fo2_0 F Post (.exit 0) (st_fo2_0 t4 t5 t28 t29 t30 o8 c9_0 c9_1) = g_fo2_c0_1 (fun r0 r1 => Post (.tup [.str r0, .int .i64 r1])) t4 t5 t28 t29 t30 o8 c9_0 c9_1 := by kernel_rfl
set_option maxRecDepth 100000 in
theorem step_fo2_1 (F n r : Nat) (K : AEx → ASt UU → Prop) (t4 : ByteArray) (t5 : Int) (t28 : List Opn) (t29 : Int) (t30 : Int) (t60 : List Int) (t61 : Int) (t62 : Int) (o8 : ByteArray) (c9_0 : Int) (c9_1 : Int) (c11_0 : Int) (c11_1 : Int) (c11_2 : Int) (c11_3 : Int) (c11_4 : Int) (c11_5 : Int) : iter (execG (inliner M_fo2 F 0 C_program_pressed) C_program_pressed Tryz.f20.ntmps M_fo2 F 2 (cL (cB (cS (cF (cS (cS (cS (cS (cB (cF (cS (cS (cL (cB (cS (cF (cS (cS (cS (cS (cS (cS (bo Tryz.f20)))))))))))))))))))))))) (M_fo2 0 2) (n + 1) r (st_fo2_1 t4 t5 t28 t29 t30 t60 t61 t62 o8 c9_0 c9_1 c11_0 c11_1 c11_2 c11_3 c11_4 c11_5) K = g_fo2_s1 (fun t4 t5 t28 t29 t30 t60 t61 t62 o8 c9_0 c9_1 c11_0 c11_1 c11_2 c11_3 c11_4 c11_5 => iter (execG (inliner M_fo2 F 0 C_program_pressed) C_program_pressed Tryz.f20.ntmps M_fo2 F 2 (cL (cB (cS (cF (cS (cS (cS (cS (cB (cF (cS (cS (cL (cB (cS (cF (cS (cS (cS (cS (cS (cS (bo Tryz.f20)))))))))))))))))))))))) (M_fo2 0 2) n (r + 1) (st_fo2_1 t4 t5 t28 t29 t30 t60 t61 t62 o8 c9_0 c9_1 c11_0 c11_1 c11_2 c11_3 c11_4 c11_5) K) (fun t4 t5 t28 t29 t30 t60 t61 t62 o8 c9_0 c9_1 c11_0 c11_1 c11_2 c11_3 c11_4 c11_5 => K (.exit 2) (st_fo2_1 t4 t5 t28 t29 t30 t60 t61 t62 o8 c9_0 c9_1 c11_0 c11_1 c11_2 c11_3 c11_4 c11_5)) t4 t5 t28 t29 t30 t60 t61 t62 o8 c9_0 c9_1 c11_0 c11_1 c11_2 c11_3 c11_4 c11_5 := by kernel_rfl
set_option maxRecDepth 100000 in
theorem cont_fo2_1_0 (F n r : Nat) (K : AEx → ASt UU → Prop) (t4 : ByteArray) (t5 : Int) (t28 : List Opn) (t29 : Int) (t30 : Int) (t60 : List Int) (t61 : Int) (t62 : Int) (o8 : ByteArray) (c9_0 : Int) (c9_1 : Int) (c11_0 : Int) (c11_1 : Int) (c11_2 : Int) (c11_3 : Int) (c11_4 : Int) (c11_5 : Int) : k_fo2_1 F n r K (.exit 2) (st_fo2_1 t4 t5 t28 t29 t30 t60 t61 t62 o8 c9_0 c9_1 c11_0 c11_1 c11_2 c11_3 c11_4 c11_5) = g_fo2_c1_0 (fun t4 t5 t28 t29 t30 o8 c9_0 c9_1 => iter (execG (inliner M_fo2 F 0 C_program_pressed) C_program_pressed Tryz.f20.ntmps M_fo2 F 0 (cL (cB (cS (cF (cS (cS (cS (cS (cS (cS (bo Tryz.f20)))))))))))) (M_fo2 0 0) n (r + 1) (st_fo2_0 t4 t5 t28 t29 t30 o8 c9_0 c9_1) K) (fun t4 t5 t28 t29 t30 o8 c9_0 c9_1 => K .ret (st_fo2_0 t4 t5 t28 t29 t30 o8 c9_0 c9_1)) (fun t4 t5 t28 t29 t30 o8 c9_0 c9_1 => K (.exit 0) (st_fo2_0 t4 t5 t28 t29 t30 o8 c9_0 c9_1)) t4 t5 t28 t29 t30 t60 t61 t62 o8 c9_0 c9_1 c11_0 c11_1 c11_2 c11_3 c11_4 c11_5 := by kernel_rfl
set_option maxRecDepth 100000 in
theorem entry_fo2 (F : Nat) (Post : AVal UU → Prop) (ops : List Opn) : exec C_program_pressed Tryz.f20.ntmps M_fo2 F 0 (bo Tryz.f20) (initSt [.int .i64 2, .sl .op ops]) (AEnds C_program_pressed false Tryz.f20 Post) = g_fo2_e ops (fun r0 r1 => Post (.tup [.str r0, .int .i64 r1])) (fun t4 t5 t28 t29 t30 o8 c9_0 c9_1 => iter (execG (inliner M_fo2 F 0 C_program_pressed) C_program_pressed Tryz.f20.ntmps M_fo2 F 0 (cL (cB (cS (cF (cS (cS (cS (cS (cS (cS (bo Tryz.f20)))))))))))) (M_fo2 0 0) F 0 (st_fo2_0 t4 t5 t28 t29 t30 o8 c9_0 c9_1) (k_fo2_0 F Post)) := by kernel_rfl
theorem loop_fo2_1 (F : Nat) (K : AEx → ASt UU → Prop) : ∀ (n r : Nat) (t4 : ByteArray) (t5 : Int) (t28 : List Opn) (t29 : Int) (t30 : Int) (t60 : List Int) (t61 : Int) (t62 : Int) (o8 : ByteArray) (c9_0 : Int) (c9_1 : Int) (c11_0 : Int) (c11_1 : Int) (c11_2 : Int) (c11_3 : Int) (c11_4 : Int) (c11_5 : Int), iter (execG (inliner M_fo2 F 0 C_program_pressed) C_program_pressed Tryz.f20.ntmps M_fo2 F 2 (cL (cB (cS (cF (cS (cS (cS (cS (cB (cF (cS (cS (cL (cB (cS (cF (cS (cS (cS (cS (cS (cS (bo Tryz.f20)))))))))))))))))))))))) (M_fo2 0 2) n r (st_fo2_1 t4 t5 t28 t29 t30 t60 t61 t62 o8 c9_0 c9_1 c11_0 c11_1 c11_2 c11_3 c11_4 c11_5) K = w_fo2_1 F  (fun t4 t5 t28 t29 t30 t60 t61 t62 o8 c9_0 c9_1 c11_0 c11_1 c11_2 c11_3 c11_4 c11_5 => K (.exit 2) (st_fo2_1 t4 t5 t28 t29 t30 t60 t61 t62 o8 c9_0 c9_1 c11_0 c11_1 c11_2 c11_3 c11_4 c11_5)) n t4 t5 t28 t29 t30 t60 t61 t62 o8 c9_0 c9_1 c11_0 c11_1 c11_2 c11_3 c11_4 c11_5 := by
  intro n
  induction n with
  | zero => intros; rfl
  | succ n ih =>
    intro r t4 t5 t28 t29 t30 t60 t61 t62 o8 c9_0 c9_1 c11_0 c11_1 c11_2 c11_3 c11_4 c11_5
    have e : (fun t4 t5 t28 t29 t30 t60 t61 t62 o8 c9_0 c9_1 c11_0 c11_1 c11_2 c11_3 c11_4 c11_5 => iter (execG (inliner M_fo2 F 0 C_program_pressed) C_program_pressed Tryz.f20.ntmps M_fo2 F 2 (cL (cB (cS (cF (cS (cS (cS (cS (cB (cF (cS (cS (cL (cB (cS (cF (cS (cS (cS (cS (cS (cS (bo Tryz.f20)))))))))))))))))))))))) (M_fo2 0 2) n (r + 1) (st_fo2_1 t4 t5 t28 t29 t30 t60 t61 t62 o8 c9_0 c9_1 c11_0 c11_1 c11_2 c11_3 c11_4 c11_5) K) = w_fo2_1 F  (fun t4 t5 t28 t29 t30 t60 t61 t62 o8 c9_0 c9_1 c11_0 c11_1 c11_2 c11_3 c11_4 c11_5 => K (.exit 2) (st_fo2_1 t4 t5 t28 t29 t30 t60 t61 t62 o8 c9_0 c9_1 c11_0 c11_1 c11_2 c11_3 c11_4 c11_5)) n := by
      funext t4 t5 t28 t29 t30 t60 t61 t62 o8 c9_0 c9_1 c11_0 c11_1 c11_2 c11_3 c11_4 c11_5
      exact ih (r + 1) t4 t5 t28 t29 t30 t60 t61 t62 o8 c9_0 c9_1 c11_0 c11_1 c11_2 c11_3 c11_4 c11_5
    rw [step_fo2_1, e]
    rfl
theorem nl_fo2_1 (F n r : Nat) (K : AEx → ASt UU → Prop) (t4 : ByteArray) (t5 : Int) (t28 : List Opn) (t29 : Int) (t30 : Int) (t60 : List Int) (t61 : Int) (t62 : Int) (o8 : ByteArray) (c9_0 : Int) (c9_1 : Int) (c11_0 : Int) (c11_1 : Int) (c11_2 : Int) (c11_3 : Int) (c11_4 : Int) (c11_5 : Int) : iter (execG (inliner M_fo2 F 0 C_program_pressed) C_program_pressed Tryz.f20.ntmps M_fo2 F 2 (cL (cB (cS (cF (cS (cS (cS (cS (cB (cF (cS (cS (cL (cB (cS (cF (cS (cS (cS (cS (cS (cS (bo Tryz.f20)))))))))))))))))))))))) (M_fo2 0 2) F 0 (st_fo2_1 t4 t5 t28 t29 t30 t60 t61 t62 o8 c9_0 c9_1 c11_0 c11_1 c11_2 c11_3 c11_4 c11_5) (k_fo2_1 F n r K) = n_fo2_1 F (fun t4 t5 t28 t29 t30 o8 c9_0 c9_1 => iter (execG (inliner M_fo2 F 0 C_program_pressed) C_program_pressed Tryz.f20.ntmps M_fo2 F 0 (cL (cB (cS (cF (cS (cS (cS (cS (cS (cS (bo Tryz.f20)))))))))))) (M_fo2 0 0) n (r + 1) (st_fo2_0 t4 t5 t28 t29 t30 o8 c9_0 c9_1) K) (fun t4 t5 t28 t29 t30 o8 c9_0 c9_1 => K .ret (st_fo2_0 t4 t5 t28 t29 t30 o8 c9_0 c9_1)) (fun t4 t5 t28 t29 t30 o8 c9_0 c9_1 => K (.exit 0) (st_fo2_0 t4 t5 t28 t29 t30 o8 c9_0 c9_1)) t4 t5 t28 t29 t30 t60 t61 t62 o8 c9_0 c9_1 c11_0 c11_1 c11_2 c11_3 c11_4 c11_5 := by
  rw [loop_fo2_1]
  have h0 : (fun t4 t5 t28 t29 t30 t60 t61 t62 o8 c9_0 c9_1 c11_0 c11_1 c11_2 c11_3 c11_4 c11_5 => k_fo2_1 F n r K (.exit 2) (st_fo2_1 t4 t5 t28 t29 t30 t60 t61 t62 o8 c9_0 c9_1 c11_0 c11_1 c11_2 c11_3 c11_4 c11_5)) = (fun t4 t5 t28 t29 t30 t60 t61 t62 o8 c9_0 c9_1 c11_0 c11_1 c11_2 c11_3 c11_4 c11_5 => g_fo2_c1_0 (fun t4 t5 t28 t29 t30 o8 c9_0 c9_1 => iter (execG (inliner M_fo2 F 0 C_program_pressed) C_program_pressed Tryz.f20.ntmps M_fo2 F 0 (cL (cB (cS (cF (cS (cS (cS (cS (cS (cS (bo Tryz.f20)))))))))))) (M_fo2 0 0) n (r + 1) (st_fo2_0 t4 t5 t28 t29 t30 o8 c9_0 c9_1) K) (fun t4 t5 t28 t29 t30 o8 c9_0 c9_1 => K .ret (st_fo2_0 t4 t5 t28 t29 t30 o8 c9_0 c9_1)) (fun t4 t5 t28 t29 t30 o8 c9_0 c9_1 => K (.exit 0) (st_fo2_0 t4 t5 t28 t29 t30 o8 c9_0 c9_1)) t4 t5 t28 t29 t30 t60 t61 t62 o8 c9_0 c9_1 c11_0 c11_1 c11_2 c11_3 c11_4 c11_5) := by
    funext t4 t5 t28 t29 t30 t60 t61 t62 o8 c9_0 c9_1 c11_0 c11_1 c11_2 c11_3 c11_4 c11_5
    rw [cont_fo2_1_0]
  rw [h0]
  rfl
theorem loop_fo2_0 (F : Nat) (K : AEx → ASt UU → Prop) : ∀ (n r : Nat) (t4 : ByteArray) (t5 : Int) (t28 : List Opn) (t29 : Int) (t30 : Int) (o8 : ByteArray) (c9_0 : Int) (c9_1 : Int), iter (execG (inliner M_fo2 F 0 C_program_pressed) C_program_pressed Tryz.f20.ntmps M_fo2 F 0 (cL (cB (cS (cF (cS (cS (cS (cS (cS (cS (bo Tryz.f20)))))))))))) (M_fo2 0 0) n r (st_fo2_0 t4 t5 t28 t29 t30 o8 c9_0 c9_1) K = w_fo2_0 F  (fun t4 t5 t28 t29 t30 o8 c9_0 c9_1 => K .ret (st_fo2_0 t4 t5 t28 t29 t30 o8 c9_0 c9_1)) (fun t4 t5 t28 t29 t30 o8 c9_0 c9_1 => K (.exit 0) (st_fo2_0 t4 t5 t28 t29 t30 o8 c9_0 c9_1)) n t4 t5 t28 t29 t30 o8 c9_0 c9_1 := by
  intro n
  induction n with
  | zero => intros; rfl
  | succ n ih =>
    intro r t4 t5 t28 t29 t30 o8 c9_0 c9_1
    have e : (fun t4 t5 t28 t29 t30 o8 c9_0 c9_1 => iter (execG (inliner M_fo2 F 0 C_program_pressed) C_program_pressed Tryz.f20.ntmps M_fo2 F 0 (cL (cB (cS (cF (cS (cS (cS (cS (cS (cS (bo Tryz.f20)))))))))))) (M_fo2 0 0) n (r + 1) (st_fo2_0 t4 t5 t28 t29 t30 o8 c9_0 c9_1) K) = w_fo2_0 F  (fun t4 t5 t28 t29 t30 o8 c9_0 c9_1 => K .ret (st_fo2_0 t4 t5 t28 t29 t30 o8 c9_0 c9_1)) (fun t4 t5 t28 t29 t30 o8 c9_0 c9_1 => K (.exit 0) (st_fo2_0 t4 t5 t28 t29 t30 o8 c9_0 c9_1)) n := by
      funext t4 t5 t28 t29 t30 o8 c9_0 c9_1
      exact ih (r + 1) t4 t5 t28 t29 t30 o8 c9_0 c9_1
    have e1 : (fun t4 t5 t28 t29 t30 t60 t61 t62 o8 c9_0 c9_1 c11_0 c11_1 c11_2 c11_3 c11_4 c11_5 => iter (execG (inliner M_fo2 F 0 C_program_pressed) C_program_pressed Tryz.f20.ntmps M_fo2 F 2 (cL (cB (cS (cF (cS (cS (cS (cS (cB (cF (cS (cS (cL (cB (cS (cF (cS (cS (cS (cS (cS (cS (bo Tryz.f20)))))))))))))))))))))))) (M_fo2 0 2) F 0 (st_fo2_1 t4 t5 t28 t29 t30 t60 t61 t62 o8 c9_0 c9_1 c11_0 c11_1 c11_2 c11_3 c11_4 c11_5) (k_fo2_1 F n r K)) = (n_fo2_1 F (fun t4 t5 t28 t29 t30 o8 c9_0 c9_1 => iter (execG (inliner M_fo2 F 0 C_program_pressed) C_program_pressed Tryz.f20.ntmps M_fo2 F 0 (cL (cB (cS (cF (cS (cS (cS (cS (cS (cS (bo Tryz.f20)))))))))))) (M_fo2 0 0) n (r + 1) (st_fo2_0 t4 t5 t28 t29 t30 o8 c9_0 c9_1) K) (fun t4 t5 t28 t29 t30 o8 c9_0 c9_1 => K .ret (st_fo2_0 t4 t5 t28 t29 t30 o8 c9_0 c9_1)) (fun t4 t5 t28 t29 t30 o8 c9_0 c9_1 => K (.exit 0) (st_fo2_0 t4 t5 t28 t29 t30 o8 c9_0 c9_1))) := by
      funext t4 t5 t28 t29 t30 t60 t61 t62 o8 c9_0 c9_1 c11_0 c11_1 c11_2 c11_3 c11_4 c11_5
      exact nl_fo2_1 F n r K t4 t5 t28 t29 t30 t60 t61 t62 o8 c9_0 c9_1 c11_0 c11_1 c11_2 c11_3 c11_4 c11_5
    rw [step_fo2_0, e1, e]
    rfl
theorem nl_fo2_0 (F : Nat) (Post : AVal UU → Prop) (t4 : ByteArray) (t5 : Int) (t28 : List Opn) (t29 : Int) (t30 : Int) (o8 : ByteArray) (c9_0 : Int) (c9_1 : Int) : iter (execG (inliner M_fo2 F 0 C_program_pressed) C_program_pressed Tryz.f20.ntmps M_fo2 F 0 (cL (cB (cS (cF (cS (cS (cS (cS (cS (cS (bo Tryz.f20)))))))))))) (M_fo2 0 0) F 0 (st_fo2_0 t4 t5 t28 t29 t30 o8 c9_0 c9_1) (k_fo2_0 F Post) = n_fo2_0 F (fun r0 r1 => Post (.tup [.str r0, .int .i64 r1])) t4 t5 t28 t29 t30 o8 c9_0 c9_1 := by
  rw [loop_fo2_0]
  have h0 : (fun t4 t5 t28 t29 t30 o8 c9_0 c9_1 => k_fo2_0 F Post .ret (st_fo2_0 t4 t5 t28 t29 t30 o8 c9_0 c9_1)) = (fun t4 t5 t28 t29 t30 o8 c9_0 c9_1 => g_fo2_c0_0 (fun r0 r1 => Post (.tup [.str r0, .int .i64 r1])) t4 t5 t28 t29 t30 o8 c9_0 c9_1) := by
    funext t4 t5 t28 t29 t30 o8 c9_0 c9_1
    rw [cont_fo2_0_0]
  have h1 : (fun t4 t5 t28 t29 t30 o8 c9_0 c9_1 => k_fo2_0 F Post (.exit 0) (st_fo2_0 t4 t5 t28 t29 t30 o8 c9_0 c9_1)) = (fun t4 t5 t28 t29 t30 o8 c9_0 c9_1 => g_fo2_c0_1 (fun r0 r1 => Post (.tup [.str r0, .int .i64 r1])) t4 t5 t28 t29 t30 o8 c9_0 c9_1) := by
    funext t4 t5 t28 t29 t30 o8 c9_0 c9_1
    rw [cont_fo2_0_1]
  rw [h0, h1]
  rfl
theorem exec_fo2 (F : Nat) (Post : AVal UU → Prop) (ops : List Opn) : exec C_program_pressed Tryz.f20.ntmps M_fo2 F 0 (bo Tryz.f20) (initSt [.int .i64 2, .sl .op ops]) (AEnds C_program_pressed false Tryz.f20 Post) = w_fo2 F ops (fun r0 r1 => Post (.tup [.str r0, .int .i64 r1])) := by
  rw [entry_fo2]
  have e0 : (fun t4 t5 t28 t29 t30 o8 c9_0 c9_1 => iter (execG (inliner M_fo2 F 0 C_program_pressed) C_program_pressed Tryz.f20.ntmps M_fo2 F 0 (cL (cB (cS (cF (cS (cS (cS (cS (cS (cS (bo Tryz.f20)))))))))))) (M_fo2 0 0) F 0 (st_fo2_0 t4 t5 t28 t29 t30 o8 c9_0 c9_1) (k_fo2_0 F Post)) = (n_fo2_0 F (fun r0 r1 => Post (.tup [.str r0, .int .i64 r1]))) := by
    funext t4 t5 t28 t29 t30 o8 c9_0 c9_1
    exact nl_fo2_0 F Post t4 t5 t28 t29 t30 o8 c9_0 c9_1
  rw [e0]
  rfl
def k_fo3_0 (F : Nat) (Post : AVal UU → Prop) : AEx → ASt UU → Prop := kBlock 0 (kSeq (inliner M_fo3 F 0 C_program_pressed) C_program_pressed Tryz.f20.ntmps M_fo3 F 0 (cS (cS (cS (cS (cS (cS (cS (bo Tryz.f20)))))))) (AEnds C_program_pressed false Tryz.f20 Post))
def k_fo3_1 (F n r : Nat) (K : AEx → ASt UU → Prop) : AEx → ASt UU → Prop := kBlock 2 (kSeq (inliner M_fo3 F 0 C_program_pressed) C_program_pressed Tryz.f20.ntmps M_fo3 F 1 (cS (cS (cS (cS (cS (cB (cF (cS (cS (cL (cB (cS (cF (cS (cS (cS (cS (cS (cS (bo Tryz.f20)))))))))))))))))))) (kBlock 1 (kSeq (inliner M_fo3 F 0 C_program_pressed) C_program_pressed Tryz.f20.ntmps M_fo3 F 0 (cS (cS (cS (cL (cB (cS (cF (cS (cS (cS (cS (cS (cS (bo Tryz.f20)))))))))))))) (kIter (execG (inliner M_fo3 F 0 C_program_pressed) C_program_pressed Tryz.f20.ntmps M_fo3 F 0 (cL (cB (cS (cF (cS (cS (cS (cS (cS (cS (bo Tryz.f20)))))))))))) (M_fo3 0 0) n r K))))
set_option maxRecDepth 100000 in
theorem step_fo3_0 (F n r : Nat) (K : AEx → ASt UU → Prop) (t4 : ByteArray) (t5 : Int) (t28 : List Opn) (t29 : Int) (t30 : Int) (o8 : ByteArray) (c9_0 : Int) (c9_1 : Int) : iter (execG (inliner M_fo3 F 0 C_program_pressed) C_program_pressed Tryz.f20.ntmps M_fo3 F 0 (cL (cB (cS (cF (cS (cS (cS (cS (cS (cS (bo Tryz.f20)))))))))))) (M_fo3 0 0) (n + 1) r (st_fo3_0 t4 t5 t28 t29 t30 o8 c9_0 c9_1) K = g_fo3_s0 (fun t4 t5 t28 t29 t30 o8 c9_0 c9_1 => iter (execG (inliner M_fo3 F 0 C_program_pressed) C_program_pressed Tryz.f20.ntmps M_fo3 F 0 (cL (cB (cS (cF (cS (cS (cS (cS (cS (cS (bo Tryz.f20)))))))))))) (M_fo3 0 0) n (r + 1) (st_fo3_0 t4 t5 t28 t29 t30 o8 c9_0 c9_1) K) (fun t4 t5 t28 t29 t30 o8 c9_0 c9_1 => K .ret (st_fo3_0 t4 t5 t28 t29 t30 o8 c9_0 c9_1)) (fun t4 t5 t28 t29 t30 o8 c9_0 c9_1 => K (.exit 0) (st_fo3_0 t4 t5 t28 t29 t30 o8 c9_0 c9_1)) t4 t5 t28 t29 t30 o8 c9_0 c9_1 (fun t4 t5 t28 t29 t30 t60 t61 t62 o8 c9_0 c9_1 c11_0 c11_1 c11_2 c11_3 c11_4 c11_5 => iter (execG (inliner M_fo3 F 0 C_program_pressed) C_program_pressed Tryz.f20.ntmps M_fo3 F 2 (cL (cB (cS (cF (cS (cS (cS (cS (cB (cF (cS (cS (cL (cB (cS (cF (cS (cS (cS (cS (cS (cS (bo Tryz.f20)))))))))))))))))))))))) (M_fo3 0 2) F 0 (st_fo3_1 t4 t5 t28 t29 t30 t60 t61 t62 o8 c9_0 c9_1 c11_0 c11_1 c11_2 c11_3 c11_4 c11_5) (k_fo3_1 F n r K)) := by kernel_rfl
set_option maxRecDepth 100000 in
theorem cont_fo3_0_0 (F : Nat) (Post : AVal UU → Prop) (t4 : ByteArray) (t5 : Int) (t28 : List Opn) (t29 : Int) (t30 : Int) (o8 : ByteArray) (c9_0 : Int) (c9_1 : Int) : k_fo3_0 F Post .ret (st_fo3_0 t4 t5 t28 t29 t30 o8 c9_0 c9_1) = g_fo3_c0_0 (fun r0 r1 => Post (.tup [.str r0, .int .i64 r1])) t4 t5 t28 t29 t30 o8 c9_0 c9_1 := by kernel_rfl
set_option maxRecDepth 100000 in
theorem cont_fo3_0_1 (F : Nat) (Post : AVal UU → Prop) (t4 : ByteArray) (t5 : Int) (t28 : List Opn) (t29 : Int) (t30 : Int) (o8 : ByteArray) (c9_0 : Int) (c9_1 : Int) : k_fo3_0 F Post (.exit 0) (st_fo3_0 t4 t5 t28 t29 t30 o8 c9_0 c9_1) = g_fo3_c0_1 (fun r0 r1 => Post (.tup [.str r0, .int .i64 r1])) t4 t5 t28 t29 t30 o8 c9_0 c9_1 := by kernel_rfl
set_option maxRecDepth 100000 in
theorem step_fo3_1 (F n r : Nat) (K : AEx → ASt UU → Prop) (t4 : ByteArray) (t5 : Int) (t28 : List Opn) (t29 : Int) (t30 : Int) (t60 : List Int) (t61 : Int) (t62 : Int) (o8 : ByteArray) (c9_0 : Int) (c9_1 : Int) (c11_0 : Int) (c11_1 : Int) (c11_2 : Int) (c11_3 : Int) (c11_4 : Int) (c11_5 : Int) : iter (execG (inliner M_fo3 F 0 C_program_pressed) C_program_pressed Tryz.f20.ntmps M_fo3 F 2 (cL (cB (cS (cF (cS (cS (cS (cS (cB (cF (cS (cS (cL (cB (cS (cF (cS (cS (cS (cS (cS (cS (bo Tryz.f20)))))))))))))))))))))))) (M_fo3 0 2) (n + 1) r (st_fo3_1 t4 t5 t28 t29 t30 t60 t61 t62 o8 c9_0 c9_1 c11_0 c11_1 c11_2 c11_3 c11_4 c11_5) K = g_fo3_s1 (fun t4 t5 t28 t29 t30 t60 t61 t62 o8 c9_0 c9_1 c11_0 c11_1 c11_2 c11_3 c11_4 c11_5 => iter (execG (inliner M_fo3 F 0 C_program_pressed) C_program_pressed Tryz.f20.ntmps M_fo3 F 2 (cL (cB (cS (cF (cS (cS (cS (cS (cB (cF (cS (cS (cL (cB (cS (cF (cS (cS (cS (cS (cS (cS (bo Tryz.f20)))))))))))))))))))))))) (M_fo3 0 2) n (r + 1) (st_fo3_1 t4 t5 t28 t29 t30 t60 t61 t62 o8 c9_0 c9_1 c11_0 c11_1 c11_2 c11_3 c11_4 c11_5) K) (fun t4 t5 t28 t29 t30 t60 t61 t62 o8 c9_0 c9_1 c11_0 c11_1 c11_2 c11_3 c11_4 c11_5 => K (.exit 2) (st_fo3_1 t4 t5 t28 t29 t30 t60 t61 t62 o8 c9_0 c9_1 c11_0 c11_1 c11_2 c11_3 c11_4 c11_5)) t4 t5 t28 t29 t30 t60 t61 t62 o8 c9_0 c9_1 c11_0 c11_1 c11_2 c11_3 c11_4 c11_5 := by kernel_rfl
set_option maxRecDepth 100000 in
theorem cont_fo3_1_0 (F n r : Nat) (K : AEx → ASt UU → Prop) (t4 : ByteArray) (t5 : Int) (t28 : List Opn) (t29 : Int) (t30 : Int) (t60 : List Int) (t61 : Int) (t62 : Int) (o8 : ByteArray) (c9_0 : Int) (c9_1 : Int) (c11_0 : Int) (c11_1 : Int) (c11_2 : Int) (c11_3 : Int) (c11_4 : Int) (c11_5 : Int) : k_fo3_1 F n r K (.exit 2) (st_fo3_1 t4 t5 t28 t29 t30 t60 t61 t62 o8 c9_0 c9_1 c11_0 c11_1 c11_2 c11_3 c11_4 c11_5) = g_fo3_c1_0 (fun t4 t5 t28 t29 t30 o8 c9_0 c9_1 => iter (execG (inliner M_fo3 F 0 C_program_pressed) C_program_pressed Tryz.f20.ntmps M_fo3 F 0 (cL (cB (cS (cF (cS (cS (cS (cS (cS (cS (bo Tryz.f20)))))))))))) (M_fo3 0 0) n (r + 1) (st_fo3_0 t4 t5 t28 t29 t30 o8 c9_0 c9_1) K) (fun t4 t5 t28 t29 t30 o8 c9_0 c9_1 => K .ret (st_fo3_0 t4 t5 t28 t29 t30 o8 c9_0 c9_1)) (fun t4 t5 t28 t29 t30 o8 c9_0 c9_1 => K (.exit 0) (st_fo3_0 t4 t5 t28 t29 t30 o8 c9_0 c9_1)) t4 t5 t28 t29 t30 t60 t61 t62 o8 c9_0 c9_1 c11_0 c11_1 c11_2 c11_3 c11_4 c11_5 := by kernel_rfl
set_option maxRecDepth 100000 in
theorem entry_fo3 (F : Nat) (Post : AVal UU → Prop) (ops : List Opn) : exec C_program_pressed Tryz.f20.ntmps M_fo3 F 0 (bo Tryz.f20) (initSt [.int .i64 3, .sl .op ops]) (AEnds C_program_pressed false Tryz.f20 Post) = g_fo3_e ops (fun r0 r1 => Post (.tup [.str r0, .int .i64 r1])) (fun t4 t5 t28 t29 t30 o8 c9_0 c9_1 => iter (execG (inliner M_fo3 F 0 C_program_pressed) C_program_pressed Tryz.f20.ntmps M_fo3 F 0 (cL (cB (cS (cF (cS (cS (cS (cS (cS (cS (bo Tryz.f20)))))))))))) (M_fo3 0 0) F 0 (st_fo3_0 t4 t5 t28 t29 t30 o8 c9_0 c9_1) (k_fo3_0 F Post)) := by kernel_rfl
theorem loop_fo3_1 (F : Nat) (K : AEx → ASt UU → Prop) : ∀ (n r : Nat) (t4 : ByteArray) (t5 : Int) (t28 : List Opn) (t29 : Int) (t30 : Int) (t60 : List Int) (t61 : Int) (t62 : Int) (o8 : ByteArray) (c9_0 : Int) (c9_1 : Int) (c11_0 : Int) (c11_1 : Int) (c11_2 : Int) (c11_3 : Int) (c11_4 : Int) (c11_5 : Int), iter (execG (inliner M_fo3 F 0 C_program_pressed) C_program_pressed Tryz.f20.ntmps M_fo3 F 2 (cL (cB (cS (cF (cS (cS (cS (cS (cB (cF (cS (cS (cL (cB (cS (cF (cS (cS (cS (cS (cS (cS (bo Tryz.f20)))))))))))))))))))))))) (M_fo3 0 2) n r (st_fo3_1 t4 t5 t28 t29 t30 t60 t61 t62 o8 c9_0 c9_1 c11_0 c11_1 c11_2 c11_3 c11_4 c11_5) K = w_fo3_1 F  (fun t4 t5 t28 t29 t30 t60 t61 t62 o8 c9_0 c9_1 c11_0 c11_1 c11_2 c11_3 c11_4 c11_5 => K (.exit 2) (st_fo3_1 t4 t5 t28 t29 t30 t60 t61 t62 o8 c9_0 c9_1 c11_0 c11_1 c11_2 c11_3 c11_4 c11_5)) n t4 t5 t28 t29 t30 t60 t61 t62 o8 c9_0 c9_1 c11_0 c11_1 c11_2 c11_3 c11_4 c11_5 := by
  intro n
  induction n with
  | zero => intros; rfl
  | succ n ih =>
    intro r t4 t5 t28 t29 t30 t60 t61 t62 o8 c9_0 c9_1 c11_0 c11_1 c11_2 c11_3 c11_4 c11_5
    have e : (fun t4 t5 t28 t29 t30 t60 t61 t62 o8 c9_0 c9_1 c11_0 c11_1 c11_2 c11_3 c11_4 c11_5 => iter (execG (inliner M_fo3 F 0 C_program_pressed) C_program_pressed Tryz.f20.ntmps M_fo3 F 2 (cL (cB (cS (cF (cS (cS (cS (cS (cB (cF (cS (cS (cL (cB (cS (cF (cS (cS (cS (cS (cS (cS (bo Tryz.f20)))))))))))))))))))))))) (M_fo3 0 2) n (r + 1) (st_fo3_1 t4 t5 t28 t29 t30 t60 t61 t62 o8 c9_0 c9_1 c11_0 c11_1 c11_2 c11_3 c11_4 c11_5) K) = w_fo3_1 F  (fun t4 t5 t28 t29 t30 t60 t61 t62 o8 c9_0 c9_1 c11_0 c11_1 c11_2 c11_3 c11_4 c11_5 => K (.exit 2) (st_fo3_1 t4 t5 t28 t29 t30 t60 t61 t62 o8 c9_0 c9_1 c11_0 c11_1 c11_2 c11_3 c11_4 c11_5)) n := by
      funext t4 t5 t28 t29 t30 t60 t61 t62 o8 c9_0 c9_1 c11_0 c11_1 c11_2 c11_3 c11_4 c11_5
      exact ih (r + 1) t4 t5 t28 t29 t30 t60 t61 t62 o8 c9_0 c9_1 c11_0 c11_1 c11_2 c11_3 c11_4 c11_5
    rw [step_fo3_1, e]
    rfl
theorem nl_fo3_1 (F n r : Nat) (K : AEx → ASt UU → Prop) (t4 : ByteArray) (t5 : Int) (t28 : List Opn) (t29 : Int) (t30 : Int) (t60 : List Int) (t61 : Int) (t62 : Int) (o8 : ByteArray) (c9_0 : Int) (c9_1 : Int) (c11_0 : Int) (c11_1 : Int) (c11_2 : Int) (c11_3 : Int) (c11_4 : Int) (c11_5 : Int) : iter (execG (inliner M_fo3 F 0 C_program_pressed) C_program_pressed Tryz.f20.ntmps M_fo3 F 2 (cL (cB (cS (cF (cS (cS (cS (cS (cB (cF (cS (cS (cL (cB (cS (cF (cS (cS (cS (cS (cS (cS (bo Tryz.f20)))))))))))))))))))))))) (M_fo3 0 2) F 0 (st_fo3_1 t4 t5 t28 t29 t30 t60 t61 t62 o8 c9_0 c9_1 c11_0 c11_1 c11_2 c11_3 c11_4 c11_5) (k_fo3_1 F n r K) = n_fo3_1 F (fun t4 t5 t28 t29 t30 o8 c9_0 c9_1 => iter (execG (inliner M_fo3 F 0 C_program_pressed) C_program_pressed Tryz.f20.ntmps M_fo3 F 0 (cL (cB (cS (cF (cS (cS (cS (cS (cS (cS (bo Tryz.f20)))))))))))) (M_fo3 0 0) n (r + 1) (st_fo3_0 t4 t5 t28 t29 t30 o8 c9_0 c9_1) K) (fun t4 t5 t28 t29 t30 o8 c9_0 c9_1 => K .ret (st_fo3_0 t4 t5 t28 t29 t30 o8 c9_0 c9_1)) (fun t4 t5 t28 t29 t30 o8 c9_0 c9_1 => K (.exit 0) (st_fo3_0 t4 t5 t28 t29 t30 o8 c9_0 c9_1)) t4 t5 t28 t29 t30 t60 t61 t62 o8 c9_0 c9_1 c11_0 c11_1 c11_2 c11_3 c11_4 c11_5 := by
  rw [loop_fo3_1]
  have h0 : (fun t4 t5 t28 t29 t30 t60 t61 t62 o8 c9_0 c9_1 c11_0 c11_1 c11_2 c11_3 c11_4 c11_5 => k_fo3_1 F n r K (.exit 2) (st_fo3_1 t4 t5 t28 t29 t30 t60 t61 t62 o8 c9_0 c9_1 c11_0 c11_1 c11_2 c11_3 c11_4 c11_5)) = (fun t4 t5 t28 t29 t30 t60 t61 t62 o8 c9_0 c9_1 c11_0 c11_1 c11_2 c11_3 c11_4 c11_5 => g_fo3_c1_0 (fun t4 t5 t28 t29 t30 o8 c9_0 c9_1 => iter (execG (inliner M_fo3 F 0 C_program_pressed) C_program_pressed Tryz.f20.ntmps M_fo3 F 0 (cL (cB (cS (cF (cS (cS (cS (cS (cS (cS (bo Tryz.f20)))))))))))) (M_fo3 0 0) n (r + 1) (st_fo3_0 t4 t5 t28 t29 t30 o8 c9_0 c9_1) K) (fun t4 t5 t28 t29 t30 o8 c9_0 c9_1 => K .ret (st_fo3_0 t4 t5 t28 t29 t30 o8 c9_0 c9_1)) (fun t4 t5 t28 t29 t30 o8 c9_0 c9_1 => K (.exit 0) (st_fo3_0 t4 t5 t28 t29 t30 o8 c9_0 c9_1)) t4 t5 t28 t29 t30 t60 t61 t62 o8 c9_0 c9_1 c11_0 c11_1 c11_2 c11_3 c11_4 c11_5) := by
    funext t4 t5 t28 t29 t30 t60 t61 t62 o8 c9_0 c9_1 c11_0 c11_1 c11_2 c11_3 c11_4 c11_5
    rw [cont_fo3_1_0]
  rw [h0]
  rfl
theorem loop_fo3_0 (F : Nat) (K : AEx → ASt UU → Prop) : ∀ (n r : Nat) (t4 : ByteArray) (t5 : Int) (t28 : List Opn) (t29 : Int) (t30 : Int) (o8 : ByteArray) (c9_0 : Int) (c9_1 : Int), iter (execG (inliner M_fo3 F 0 C_program_pressed) C_program_pressed Tryz.f20.ntmps M_fo3 F 0 (cL (cB (cS (cF (cS (cS (cS (cS (cS (cS (bo Tryz.f20)))))))))))) (M_fo3 0 0) n r (st_fo3_0 t4 t5 t28 t29 t30 o8 c9_0 c9_1) K = w_fo3_0 F  (fun t4 t5 t28 t29 t30 o8 c9_0 c9_1 => K .ret (st_fo3_0 t4 t5 t28 t29 t30 o8 c9_0 c9_1)) (fun t4 t5 t28 t29 t30 o8 c9_0 c9_1 => K (.exit 0) (st_fo3_0 t4 t5 t28 t29 t30 o8 c9_0 c9_1)) n t4 t5 t28 t29 t30 o8 c9_0 c9_1 := by
  intro n
  induction n with
  | zero => intros; rfl
  | succ n ih =>
    intro r t4 t5 t28 t29 t30 o8 c9_0 c9_1
    have e : (fun t4 t5 t28 t29 t30 o8 c9_0 c9_1 => iter (execG (inliner M_fo3 F 0 C_program_pressed) C_program_pressed Tryz.f20.ntmps M_fo3 F 0 (cL (cB (cS (cF (cS (cS (cS (cS (cS (cS (bo Tryz.f20)))))))))))) (M_fo3 0 0) n (r + 1) (st_fo3_0 t4 t5 t28 t29 t30 o8 c9_0 c9_1) K) = w_fo3_0 F  (fun t4 t5 t28 t29 t30 o8 c9_0 c9_1 => K .ret (st_fo3_0 t4 t5 t28 t29 t30 o8 c9_0 c9_1)) (fun t4 t5 t28 t29 t30 o8 c9_0 c9_1 => K (.exit 0) (st_fo3_0 t4 t5 t28 t29 t30 o8 c9_0 c9_1)) n := by
      funext t4 t5 t28 t29 t30 o8 c9_0 c9_1
      exact ih (r + 1) t4 t5 t28 t29 t30 o8 c9_0 c9_1
    have e1 : (fun t4 t5 t28 t29 t30 t60 t61 t62 o8 c9_0 c9_1 c11_0 c11_1 c11_2 c11_3 c11_4 c11_5 => iter (execG (inliner M_fo3 F 0 C_program_pressed) C_program_pressed Tryz.f20.ntmps M_fo3 F 2 (cL (cB (cS (cF (cS (cS (cS (cS (cB (cF (cS (cS (cL (cB (cS (cF (cS (cS (cS (cS (cS (cS (bo Tryz.f20)))))))))))))))))))))))) (M_fo3 0 2) F 0 (st_fo3_1 t4 t5 t28 t29 t30 t60 t61 t62 o8 c9_0 c9_1 c11_0 c11_1 c11_2 c11_3 c11_4 c11_5) (k_fo3_1 F n r K)) = (n_fo3_1 F (fun t4 t5 t28 t29 t30 o8 c9_0 c9_1 => iter (execG (inliner M_fo3 F 0 C_program_pressed) C_program_pressed Tryz.f20.ntmps M_fo3 F 0 (cL (cB (cS (cF (cS (cS (cS (cS (cS (cS (bo Tryz.f20)))))))))))) (M_fo3 0 0) n (r + 1) (st_fo3_0 t4 t5 t28 t29 t30 o8 c9_0 c9_1) K) (fun t4 t5 t28 t29 t30 o8 c9_0 c9_1 => K .ret (st_fo3_0 t4 t5 t28 t29 t30 o8 c9_0 c9_1)) (fun t4 t5 t28 t29 t30 o8 c9_0 c9_1 => K (.exit 0) (st_fo3_0 t4 t5 t28 t29 t30 o8 c9_0 c9_1))) := by
      funext t4 t5 t28 t29 t30 t60 t61 t62 o8 c9_0 c9_1 c11_0 c11_1 c11_2 c11_3 c11_4 c11_5
      exact nl_fo3_1 F n r K t4 t5 t28 t29 t30 t60 t61 t62 o8 c9_0 c9_1 c11_0 c11_1 c11_2 c11_3 c11_4 c11_5
    rw [step_fo3_0, e1, e]
    rfl
theorem nl_fo3_0 (F : Nat) (Post : AVal UU → Prop) (t4 : ByteArray) (t5 : Int) (t28 : List Opn) (t29 : Int) (t30 : Int) (o8 : ByteArray) (c9_0 : Int) (c9_1 : Int) : iter (execG (inliner M_fo3 F 0 C_program_pressed) C_program_pressed Tryz.f20.ntmps M_fo3 F 0 (cL (cB (cS (cF (cS (cS (cS (cS (cS (cS (bo Tryz.f20)))))))))))) (M_fo3 0 0) F 0 (st_fo3_0 t4 t5 t28 t29 t30 o8 c9_0 c9_1) (k_fo3_0 F Post) = n_fo3_0 F (fun r0 r1 => Post (.tup [.str r0, .int .i64 r1])) t4 t5 t28 t29 t30 o8 c9_0 c9_1 := by
  rw [loop_fo3_0]
  have h0 : (fun t4 t5 t28 t29 t30 o8 c9_0 c9_1 => k_fo3_0 F Post .ret (st_fo3_0 t4 t5 t28 t29 t30 o8 c9_0 c9_1)) = (fun t4 t5 t28 t29 t30 o8 c9_0 c9_1 => g_fo3_c0_0 (fun r0 r1 => Post (.tup [.str r0, .int .i64 r1])) t4 t5 t28 t29 t30 o8 c9_0 c9_1) := by
    funext t4 t5 t28 t29 t30 o8 c9_0 c9_1
    rw [cont_fo3_0_0]
  have h1 : (fun t4 t5 t28 t29 t30 o8 c9_0 c9_1 => k_fo3_0 F Post (.exit 0) (st_fo3_0 t4 t5 t28 t29 t30 o8 c9_0 c9_1)) = (fun t4 t5 t28 t29 t30 o8 c9_0 c9_1 => g_fo3_c0_1 (fun r0 r1 => Post (.tup [.str r0, .int .i64 r1])) t4 t5 t28 t29 t30 o8 c9_0 c9_1) := by
    funext t4 t5 t28 t29 t30 o8 c9_0 c9_1
    rw [cont_fo3_0_1]
  rw [h0, h1]
  rfl
theorem exec_fo3 (F : Nat) (Post : AVal UU → Prop) (ops : List Opn) : exec C_program_pressed Tryz.f20.ntmps M_fo3 F 0 (bo Tryz.f20) (initSt [.int .i64 3, .sl .op ops]) (AEnds C_program_pressed false Tryz.f20 Post) = w_fo3 F ops (fun r0 r1 => Post (.tup [.str r0, .int .i64 r1])) := by
  rw [entry_fo3]
  have e0 : (fun t4 t5 t28 t29 t30 o8 c9_0 c9_1 => iter (execG (inliner M_fo3 F 0 C_program_pressed) C_program_pressed Tryz.f20.ntmps M_fo3 F 0 (cL (cB (cS (cF (cS (cS (cS (cS (cS (cS (bo Tryz.f20)))))))))))) (M_fo3 0 0) F 0 (st_fo3_0 t4 t5 t28 t29 t30 o8 c9_0 c9_1) (k_fo3_0 F Post)) = (n_fo3_0 F (fun r0 r1 => Post (.tup [.str r0, .int .i64 r1]))) := by
    funext t4 t5 t28 t29 t30 o8 c9_0 c9_1
    exact nl_fo3_0 F Post t4 t5 t28 t29 t30 o8 c9_0 c9_1
  rw [e0]
  rfl
set_option maxRecDepth 100000 in
theorem entry_fo4 (F : Nat) (Post : AVal UU → Prop) (m : Nat) (ops : List Opn) : exec C_program_pressed Tryz.f20.ntmps M_fo4 F 0 (bo Tryz.f20) (initSt [.int .i64 (Int.ofNat (m + 4)), .sl .op ops]) (AEnds C_program_pressed false Tryz.f20 Post) = g_fo4_e m ops (fun r0 r1 => Post (.tup [.str r0, .int .i64 r1])) := by kernel_rfl
theorem exec_fo4 (F : Nat) (Post : AVal UU → Prop) (m : Nat) (ops : List Opn) : exec C_program_pressed Tryz.f20.ntmps M_fo4 F 0 (bo Tryz.f20) (initSt [.int .i64 (Int.ofNat (m + 4)), .sl .op ops]) (AEnds C_program_pressed false Tryz.f20 Post) = w_fo4 F m ops (fun r0 r1 => Post (.tup [.str r0, .int .i64 r1])) := by
  rw [entry_fo4]
  rfl
set_option maxRecDepth 100000 in
theorem entry_fo0 (F : Nat) (Post : AVal UU → Prop) (ops : List Opn) : exec C_program_pressed Tryz.f20.ntmps M_fo0 F 0 (bo Tryz.f20) (initSt [.int .i64 0, .sl .op ops]) (AEnds C_program_pressed false Tryz.f20 Post) = g_fo0_e ops (fun r0 r1 => Post (.tup [.str r0, .int .i64 r1])) := by kernel_rfl
theorem exec_fo0 (F : Nat) (Post : AVal UU → Prop) (ops : List Opn) : exec C_program_pressed Tryz.f20.ntmps M_fo0 F 0 (bo Tryz.f20) (initSt [.int .i64 0, .sl .op ops]) (AEnds C_program_pressed false Tryz.f20 Post) = w_fo0 F ops (fun r0 r1 => Post (.tup [.str r0, .int .i64 r1])) := by
  rw [entry_fo0]
  rfl
set_option maxRecDepth 100000 in
theorem entry_fo5 (F : Nat) (Post : AVal UU → Prop) (m : Nat) (ops : List Opn) : exec C_program_pressed Tryz.f20.ntmps M_fo5 F 0 (bo Tryz.f20) (initSt [.int .i64 (Int.negSucc m), .sl .op ops]) (AEnds C_program_pressed false Tryz.f20 Post) = g_fo5_e m ops (fun r0 r1 => Post (.tup [.str r0, .int .i64 r1])) := by kernel_rfl
theorem exec_fo5 (F : Nat) (Post : AVal UU → Prop) (m : Nat) (ops : List Opn) : exec C_program_pressed Tryz.f20.ntmps M_fo5 F 0 (bo Tryz.f20) (initSt [.int .i64 (Int.negSucc m), .sl .op ops]) (AEnds C_program_pressed false Tryz.f20 Post) = w_fo5 F m ops (fun r0 r1 => Post (.tup [.str r0, .int .i64 r1])) := by
  rw [entry_fo5]
  rfl
def m_fo1 : Model UU
  | [.int .i64 1, .sl .op ops] => some ([pre_fo1 ops], .tup [.str ((sp_fo1 ops).1), .int .i64 ((sp_fo1 ops).2)])
  | [.int .i64 2, .sl .op ops] => some ([pre_fo2 ops], .tup [.str ((sp_fo2 ops).1), .int .i64 ((sp_fo2 ops).2)])
  | [.int .i64 3, .sl .op ops] => some ([pre_fo3 ops], .tup [.str ((sp_fo3 ops).1), .int .i64 ((sp_fo3 ops).2)])
  | [.int .i64 (Int.ofNat (m + 4)), .sl .op ops] => some ([], .tup [.str ((sp_fo4 m ops).1), .int .i64 ((sp_fo4 m ops).2)])
  | [.int .i64 0, .sl .op ops] => some ([], .tup [.str ((sp_fo0 ops).1), .int .i64 ((sp_fo0 ops).2)])
  | [.int .i64 (Int.negSucc m), .sl .op ops] => some ([], .tup [.str ((sp_fo5 m ops).1), .int .i64 ((sp_fo5 m ops).2)])
  | _ => none
def C_fo1 : Cfg UU := C_program_pressed.add 20 m_fo1
theorem s_fo1 : SumOK C_fo1 := by
  refine s_program_pressed.addD mixed (fn := Tryz.f20) (c := bo Tryz.f20) Tryz.func20 (by kernel_rfl) (by kernel_rfl) ?_
  intro xs cs r h hc
  unfold m_fo1 at h
  split at h
  · rename_i ops
    cases h
    obtain ⟨F, hF⟩ := ok_fo1 ops hc
    refine ⟨by kernel_rfl, M_fo1, F, false, ⟨?_⟩⟩
    rw [exec_fo1]
    refine hF _ ?_
    rfl
  · rename_i ops
    cases h
    obtain ⟨F, hF⟩ := ok_fo2 ops hc
    refine ⟨by kernel_rfl, M_fo2, F, false, ⟨?_⟩⟩
    rw [exec_fo2]
    refine hF _ ?_
    rfl
  · rename_i ops
    cases h
    obtain ⟨F, hF⟩ := ok_fo3 ops hc
    refine ⟨by kernel_rfl, M_fo3, F, false, ⟨?_⟩⟩
    rw [exec_fo3]
    refine hF _ ?_
    rfl
  · rename_i m ops
    cases h
    obtain ⟨F, hF⟩ := ok_fo4 m ops
    refine ⟨by kernel_rfl, M_fo4, F, false, ⟨?_⟩⟩
    rw [exec_fo4]
    refine hF _ ?_
    rfl
  · rename_i ops
    cases h
    obtain ⟨F, hF⟩ := ok_fo0 ops
    refine ⟨by kernel_rfl, M_fo0, F, false, ⟨?_⟩⟩
    rw [exec_fo0]
    refine hF _ ?_
    rfl
  · rename_i m ops
    cases h
    obtain ⟨F, hF⟩ := ok_fo5 m ops
    refine ⟨by kernel_rfl, M_fo5, F, false, ⟨?_⟩⟩
    rw [exec_fo5]
    refine hF _ ?_
    rfl
  · cases h
end
end Go.Proofs.YteffpgliiilnjaaGreatDoor

namespace Go.Proofs.YteffpgliiilnjaaGreatDoor
open Go.Vm Go.RowKit
set_option linter.unusedVariables false
noncomputable section
set_option maxRecDepth 100000 in
theorem entry_law08_known (F : Nat) (Post : AVal UU → Prop)  : exec C_fo1 Tryz.f13.ntmps M_law08_known F 0 (bo Tryz.f13) (initSt []) (AEnds C_fo1 false Tryz.f13 Post) = g_law08_known_e  (fun r0 => Post (.bool r0)) := by kernel_rfl
theorem exec_law08_known (F : Nat) (Post : AVal UU → Prop)  : exec C_fo1 Tryz.f13.ntmps M_law08_known F 0 (bo Tryz.f13) (initSt []) (AEnds C_fo1 false Tryz.f13 Post) = w_law08_known F  (fun r0 => Post (.bool r0)) := by
  rw [entry_law08_known]
  rfl
def m_law08_known : Model UU
  | [] => some ([], .bool sp_law08_known)
  | _ => none
def C_law08_known : Cfg UU := C_fo1.add 13 m_law08_known
theorem s_law08_known : SumOK C_law08_known := by
  refine s_fo1.addD mixed (fn := Tryz.f13) (c := bo Tryz.f13) Tryz.func13 (by kernel_rfl) (by kernel_rfl) ?_
  intro xs cs r h hc
  unfold m_law08_known at h
  split at h
  · cases h
    obtain ⟨F, hF⟩ := ok_law08_known 
    refine ⟨by kernel_rfl, M_law08_known, F, false, ⟨?_⟩⟩
    rw [exec_law08_known]
    refine hF _ ?_
    rfl
  · cases h
end
end Go.Proofs.YteffpgliiilnjaaGreatDoor

namespace Go.Proofs.YteffpgliiilnjaaGreatDoor
open Go.Vm Go.RowKit
set_option linter.unusedVariables false
noncomputable section
set_option maxRecDepth 100000 in
theorem entry_law08_ProgramRuns (F : Nat) (Post : AVal UU → Prop) (a0_Name : ByteArray) (a0_Material : ByteArray) (a0_Gauge : Int) (a0_Grain : Int) (a0_Width : Int) (a0_Height : Int) (a0_Clamps : List Rect) (a0_Used : List Rect) (a1 : List Opn) : exec C_law08_known Tryz.f3.ntmps M_law08_ProgramRuns F 0 (bo Tryz.f3) (initSt [.agg [.str a0_Name, .str a0_Material, .int .i64 a0_Gauge, .int .i64 a0_Grain, .int .i64 a0_Width, .int .i64 a0_Height, .sl .rect a0_Clamps, .sl .rect a0_Used], .sl .op a1]) (AEnds C_law08_known false Tryz.f3 Post) = g_law08_ProgramRuns_e a0_Name a0_Material a0_Gauge a0_Grain a0_Width a0_Height a0_Clamps a0_Used a1 (fun r0 => Post (.bool r0)) := by kernel_rfl
theorem exec_law08_ProgramRuns (F : Nat) (Post : AVal UU → Prop) (a0_Name : ByteArray) (a0_Material : ByteArray) (a0_Gauge : Int) (a0_Grain : Int) (a0_Width : Int) (a0_Height : Int) (a0_Clamps : List Rect) (a0_Used : List Rect) (a1 : List Opn) : exec C_law08_known Tryz.f3.ntmps M_law08_ProgramRuns F 0 (bo Tryz.f3) (initSt [.agg [.str a0_Name, .str a0_Material, .int .i64 a0_Gauge, .int .i64 a0_Grain, .int .i64 a0_Width, .int .i64 a0_Height, .sl .rect a0_Clamps, .sl .rect a0_Used], .sl .op a1]) (AEnds C_law08_known false Tryz.f3 Post) = w_law08_ProgramRuns F a0_Name a0_Material a0_Gauge a0_Grain a0_Width a0_Height a0_Clamps a0_Used a1 (fun r0 => Post (.bool r0)) := by
  rw [entry_law08_ProgramRuns]
  rfl
def m_law08_ProgramRuns : Model UU
  | [.agg [.str a0_Name, .str a0_Material, .int .i64 a0_Gauge, .int .i64 a0_Grain, .int .i64 a0_Width, .int .i64 a0_Height, .sl .rect a0_Clamps, .sl .rect a0_Used], .sl .op a1] => some ([pre_law08_ProgramRuns a0_Name a0_Material a0_Gauge a0_Grain a0_Width a0_Height a0_Clamps a0_Used a1], .bool (sp_law08_ProgramRuns a0_Name a0_Material a0_Gauge a0_Grain a0_Width a0_Height a0_Clamps a0_Used a1))
  | _ => none
def C_law08_ProgramRuns : Cfg UU := C_law08_known.add 3 m_law08_ProgramRuns
theorem s_law08_ProgramRuns : SumOK C_law08_ProgramRuns := by
  refine s_law08_known.addD mixed (fn := Tryz.f3) (c := bo Tryz.f3) Tryz.func3 (by kernel_rfl) (by kernel_rfl) ?_
  intro xs cs r h hc
  unfold m_law08_ProgramRuns at h
  split at h
  · rename_i a0_Name a0_Material a0_Gauge a0_Grain a0_Width a0_Height a0_Clamps a0_Used a1
    cases h
    obtain ⟨F, hF⟩ := ok_law08_ProgramRuns a0_Name a0_Material a0_Gauge a0_Grain a0_Width a0_Height a0_Clamps a0_Used a1 hc
    refine ⟨by kernel_rfl, M_law08_ProgramRuns, F, false, ⟨?_⟩⟩
    rw [exec_law08_ProgramRuns]
    refine hF _ ?_
    rfl
  · cases h
set_option maxRecDepth 100000 in
theorem entry_law08_within (F : Nat) (Post : AVal UU → Prop) (a0_X1 : Int) (a0_Y1 : Int) (a0_X2 : Int) (a0_Y2 : Int) (a1_X1 : Int) (a1_Y1 : Int) (a1_X2 : Int) (a1_Y2 : Int) : exec C_law08_ProgramRuns Tryz.f14.ntmps M_law08_within F 0 (bo Tryz.f14) (initSt [.agg [.int .i64 a0_X1, .int .i64 a0_Y1, .int .i64 a0_X2, .int .i64 a0_Y2], .agg [.int .i64 a1_X1, .int .i64 a1_Y1, .int .i64 a1_X2, .int .i64 a1_Y2]]) (AEnds C_law08_ProgramRuns false Tryz.f14 Post) = g_law08_within_e a0_X1 a0_Y1 a0_X2 a0_Y2 a1_X1 a1_Y1 a1_X2 a1_Y2 (fun r0 => Post (.bool r0)) := by kernel_rfl
theorem exec_law08_within (F : Nat) (Post : AVal UU → Prop) (a0_X1 : Int) (a0_Y1 : Int) (a0_X2 : Int) (a0_Y2 : Int) (a1_X1 : Int) (a1_Y1 : Int) (a1_X2 : Int) (a1_Y2 : Int) : exec C_law08_ProgramRuns Tryz.f14.ntmps M_law08_within F 0 (bo Tryz.f14) (initSt [.agg [.int .i64 a0_X1, .int .i64 a0_Y1, .int .i64 a0_X2, .int .i64 a0_Y2], .agg [.int .i64 a1_X1, .int .i64 a1_Y1, .int .i64 a1_X2, .int .i64 a1_Y2]]) (AEnds C_law08_ProgramRuns false Tryz.f14 Post) = w_law08_within F a0_X1 a0_Y1 a0_X2 a0_Y2 a1_X1 a1_Y1 a1_X2 a1_Y2 (fun r0 => Post (.bool r0)) := by
  rw [entry_law08_within]
  rfl
def m_law08_within : Model UU
  | [.agg [.int .i64 a0_X1, .int .i64 a0_Y1, .int .i64 a0_X2, .int .i64 a0_Y2], .agg [.int .i64 a1_X1, .int .i64 a1_Y1, .int .i64 a1_X2, .int .i64 a1_Y2]] => some ([], .bool (sp_law08_within a0_X1 a0_Y1 a0_X2 a0_Y2 a1_X1 a1_Y1 a1_X2 a1_Y2))
  | _ => none
def C_law08_within : Cfg UU := C_law08_ProgramRuns.add 14 m_law08_within
theorem s_law08_within : SumOK C_law08_within := by
  refine s_law08_ProgramRuns.addD mixed (fn := Tryz.f14) (c := bo Tryz.f14) Tryz.func14 (by kernel_rfl) (by kernel_rfl) ?_
  intro xs cs r h hc
  unfold m_law08_within at h
  split at h
  · rename_i a0_X1 a0_Y1 a0_X2 a0_Y2 a1_X1 a1_Y1 a1_X2 a1_Y2
    cases h
    obtain ⟨F, hF⟩ := ok_law08_within a0_X1 a0_Y1 a0_X2 a0_Y2 a1_X1 a1_Y1 a1_X2 a1_Y2
    refine ⟨by kernel_rfl, M_law08_within, F, false, ⟨?_⟩⟩
    rw [exec_law08_within]
    refine hF _ ?_
    rfl
  · cases h
end
end Go.Proofs.YteffpgliiilnjaaGreatDoor

namespace Go.Proofs.YteffpgliiilnjaaGreatDoor
open Go.Vm Go.RowKit
set_option linter.unusedVariables false
noncomputable section
def k_law08_ProgramPrefix_0 (F : Nat) (Post : AVal UU → Prop) : AEx → ASt UU → Prop := kBlock 0 (kSeq (inliner M_law08_ProgramPrefix F 0 C_law08_within) C_law08_within Tryz.f4.ntmps M_law08_ProgramPrefix F 0 (cS (cS (cS (cS (cS (cS (cS (bo Tryz.f4)))))))) (AEnds C_law08_within false Tryz.f4 Post))
def k_law08_ProgramPrefix_1 (F n r : Nat) (K : AEx → ASt UU → Prop) : AEx → ASt UU → Prop := kBlock 2 (kSeq (inliner M_law08_ProgramPrefix F 0 C_law08_within) C_law08_within Tryz.f4.ntmps M_law08_ProgramPrefix F 1 (cS (cS (cB (cF (cS (cL (cB (cS (cF (cS (cS (cS (cS (cS (cS (bo Tryz.f4)))))))))))))))) (kBlock 1 (kSeq (inliner M_law08_ProgramPrefix F 0 C_law08_within) C_law08_within Tryz.f4.ntmps M_law08_ProgramPrefix F 0 (cS (cS (cL (cB (cS (cF (cS (cS (cS (cS (cS (cS (bo Tryz.f4))))))))))))) (kIter (execG (inliner M_law08_ProgramPrefix F 0 C_law08_within) C_law08_within Tryz.f4.ntmps M_law08_ProgramPrefix F 0 (cL (cB (cS (cF (cS (cS (cS (cS (cS (cS (bo Tryz.f4)))))))))))) (M_law08_ProgramPrefix 0 0) n r K))))
set_option maxRecDepth 100000 in
theorem step_law08_ProgramPrefix_0 (F n r : Nat) (K : AEx → ASt UU → Prop) (t6 : Bool) (t11 : Int) (c9_0 : List Seg) (c9_1 : List Rect) (l97 : List Seg) (l98 : List Rect) : iter (execG (inliner M_law08_ProgramPrefix F 0 C_law08_within) C_law08_within Tryz.f4.ntmps M_law08_ProgramPrefix F 0 (cL (cB (cS (cF (cS (cS (cS (cS (cS (cS (bo Tryz.f4)))))))))))) (M_law08_ProgramPrefix 0 0) (n + 1) r (st_law08_ProgramPrefix_0 t6 t11 c9_0 c9_1 l97 l98) K = g_law08_ProgramPrefix_s0 (fun t6 t11 c9_0 c9_1 l97 l98 => iter (execG (inliner M_law08_ProgramPrefix F 0 C_law08_within) C_law08_within Tryz.f4.ntmps M_law08_ProgramPrefix F 0 (cL (cB (cS (cF (cS (cS (cS (cS (cS (cS (bo Tryz.f4)))))))))))) (M_law08_ProgramPrefix 0 0) n (r + 1) (st_law08_ProgramPrefix_0 t6 t11 c9_0 c9_1 l97 l98) K) (fun t6 t11 c9_0 c9_1 l97 l98 => K (.exit 0) (st_law08_ProgramPrefix_0 t6 t11 c9_0 c9_1 l97 l98)) (fun t6 t11 c9_0 c9_1 l97 l98 => K .ret (st_law08_ProgramPrefix_0 t6 t11 c9_0 c9_1 l97 l98)) t6 t11 c9_0 c9_1 l97 l98 (fun t6 t11 t12 t13 c9_0 c9_1 l97 l98 => iter (execG (inliner M_law08_ProgramPrefix F 0 C_law08_within) C_law08_within Tryz.f4.ntmps M_law08_ProgramPrefix F 2 (cL (cB (cS (cF (cS (cB (cF (cS (cL (cB (cS (cF (cS (cS (cS (cS (cS (cS (bo Tryz.f4)))))))))))))))))))) (M_law08_ProgramPrefix 0 2) F 0 (st_law08_ProgramPrefix_1 t6 t11 t12 t13 c9_0 c9_1 l97 l98) (k_law08_ProgramPrefix_1 F n r K)) := by kernel_rfl
set_option maxRecDepth 100000 in
theorem cont_law08_ProgramPrefix_0_0 (F : Nat) (Post : AVal UU → Prop) (t6 : Bool) (t11 : Int) (c9_0 : List Seg) (c9_1 : List Rect) (l97 : List Seg) (l98 : List Rect) : k_law08_ProgramPrefix_0 F Post (.exit 0) (st_law08_ProgramPrefix_0 t6 t11 c9_0 c9_1 l97 l98) = g_law08_ProgramPrefix_c0_0 (fun r0 => Post (.bool r0)) t6 t11 c9_0 c9_1 l97 l98 := by kernel_rfl
set_option maxRecDepth 100000 in
theorem cont_law08_ProgramPrefix_0_1 (F : Nat) (Post : AVal UU → Prop) (t6 : Bool) (t11 : Int) (c9_0 : List Seg) (c9_1 : List Rect) (l97 : List Seg) (l98 : List Rect) : k_law08_ProgramPrefix_0 F Post .ret (st_law08_ProgramPrefix_0 t6 t11 c9_0 c9_1 l97 l98) = g_law08_ProgramPrefix_c0_1 (fun r0 => Post (.bool r0)) t6 t11 c9_0 c9_1 l97 l98 := by kernel_rfl
set_option maxRecDepth 100000 in
theorem step_law08_ProgramPrefix_1 (F n r : Nat) (K : AEx → ASt UU → Prop) (t6 : Bool) (t11 : Int) (t12 : Bool) (t13 : Int) (c9_0 : List Seg) (c9_1 : List Rect) (l97 : List Seg) (l98 : List Rect) : iter (execG (inliner M_law08_ProgramPrefix F 0 C_law08_within) C_law08_within Tryz.f4.ntmps M_law08_ProgramPrefix F 2 (cL (cB (cS (cF (cS (cB (cF (cS (cL (cB (cS (cF (cS (cS (cS (cS (cS (cS (bo Tryz.f4)))))))))))))))))))) (M_law08_ProgramPrefix 0 2) (n + 1) r (st_law08_ProgramPrefix_1 t6 t11 t12 t13 c9_0 c9_1 l97 l98) K = g_law08_ProgramPrefix_s1 (fun t6 t11 t12 t13 c9_0 c9_1 l97 l98 => iter (execG (inliner M_law08_ProgramPrefix F 0 C_law08_within) C_law08_within Tryz.f4.ntmps M_law08_ProgramPrefix F 2 (cL (cB (cS (cF (cS (cB (cF (cS (cL (cB (cS (cF (cS (cS (cS (cS (cS (cS (bo Tryz.f4)))))))))))))))))))) (M_law08_ProgramPrefix 0 2) n (r + 1) (st_law08_ProgramPrefix_1 t6 t11 t12 t13 c9_0 c9_1 l97 l98) K) (fun t6 t11 t12 t13 c9_0 c9_1 l97 l98 => K (.exit 2) (st_law08_ProgramPrefix_1 t6 t11 t12 t13 c9_0 c9_1 l97 l98)) t6 t11 t12 t13 c9_0 c9_1 l97 l98 := by kernel_rfl
set_option maxRecDepth 100000 in
theorem cont_law08_ProgramPrefix_1_0 (F n r : Nat) (K : AEx → ASt UU → Prop) (t6 : Bool) (t11 : Int) (t12 : Bool) (t13 : Int) (c9_0 : List Seg) (c9_1 : List Rect) (l97 : List Seg) (l98 : List Rect) : k_law08_ProgramPrefix_1 F n r K (.exit 2) (st_law08_ProgramPrefix_1 t6 t11 t12 t13 c9_0 c9_1 l97 l98) = g_law08_ProgramPrefix_c1_0 (fun t6 t11 c9_0 c9_1 l97 l98 => iter (execG (inliner M_law08_ProgramPrefix F 0 C_law08_within) C_law08_within Tryz.f4.ntmps M_law08_ProgramPrefix F 0 (cL (cB (cS (cF (cS (cS (cS (cS (cS (cS (bo Tryz.f4)))))))))))) (M_law08_ProgramPrefix 0 0) n (r + 1) (st_law08_ProgramPrefix_0 t6 t11 c9_0 c9_1 l97 l98) K) (fun t6 t11 c9_0 c9_1 l97 l98 => K (.exit 0) (st_law08_ProgramPrefix_0 t6 t11 c9_0 c9_1 l97 l98)) (fun t6 t11 c9_0 c9_1 l97 l98 => K .ret (st_law08_ProgramPrefix_0 t6 t11 c9_0 c9_1 l97 l98)) t6 t11 t12 t13 c9_0 c9_1 l97 l98 := by kernel_rfl
set_option maxRecDepth 100000 in
theorem entry_law08_ProgramPrefix (F : Nat) (Post : AVal UU → Prop) (a0_Name : ByteArray) (a0_Material : ByteArray) (a0_Gauge : Int) (a0_Grain : Int) (a0_Width : Int) (a0_Height : Int) (a0_Clamps : List Rect) (a0_Used : List Rect) (a1 : List Opn) (a2_Kind : Int) (a2_X : Int) (a2_Y : Int) (a2_W : Int) (a2_H : Int) (a2_N : Int) : exec C_law08_within Tryz.f4.ntmps M_law08_ProgramPrefix F 0 (bo Tryz.f4) (initSt [.agg [.str a0_Name, .str a0_Material, .int .i64 a0_Gauge, .int .i64 a0_Grain, .int .i64 a0_Width, .int .i64 a0_Height, .sl .rect a0_Clamps, .sl .rect a0_Used], .sl .op a1, .agg [.int .i64 a2_Kind, .int .i64 a2_X, .int .i64 a2_Y, .int .i64 a2_W, .int .i64 a2_H, .int .i64 a2_N]]) (AEnds C_law08_within false Tryz.f4 Post) = g_law08_ProgramPrefix_e a0_Name a0_Material a0_Gauge a0_Grain a0_Width a0_Height a0_Clamps a0_Used a1 a2_Kind a2_X a2_Y a2_W a2_H a2_N (fun r0 => Post (.bool r0)) (fun t6 t11 c9_0 c9_1 l97 l98 => iter (execG (inliner M_law08_ProgramPrefix F 0 C_law08_within) C_law08_within Tryz.f4.ntmps M_law08_ProgramPrefix F 0 (cL (cB (cS (cF (cS (cS (cS (cS (cS (cS (bo Tryz.f4)))))))))))) (M_law08_ProgramPrefix 0 0) F 0 (st_law08_ProgramPrefix_0 t6 t11 c9_0 c9_1 l97 l98) (k_law08_ProgramPrefix_0 F Post)) := by kernel_rfl
theorem loop_law08_ProgramPrefix_1 (F : Nat) (K : AEx → ASt UU → Prop) : ∀ (n r : Nat) (t6 : Bool) (t11 : Int) (t12 : Bool) (t13 : Int) (c9_0 : List Seg) (c9_1 : List Rect) (l97 : List Seg) (l98 : List Rect), iter (execG (inliner M_law08_ProgramPrefix F 0 C_law08_within) C_law08_within Tryz.f4.ntmps M_law08_ProgramPrefix F 2 (cL (cB (cS (cF (cS (cB (cF (cS (cL (cB (cS (cF (cS (cS (cS (cS (cS (cS (bo Tryz.f4)))))))))))))))))))) (M_law08_ProgramPrefix 0 2) n r (st_law08_ProgramPrefix_1 t6 t11 t12 t13 c9_0 c9_1 l97 l98) K = w_law08_ProgramPrefix_1 F  (fun t6 t11 t12 t13 c9_0 c9_1 l97 l98 => K (.exit 2) (st_law08_ProgramPrefix_1 t6 t11 t12 t13 c9_0 c9_1 l97 l98)) n t6 t11 t12 t13 c9_0 c9_1 l97 l98 := by
  intro n
  induction n with
  | zero => intros; rfl
  | succ n ih =>
    intro r t6 t11 t12 t13 c9_0 c9_1 l97 l98
    have e : (fun t6 t11 t12 t13 c9_0 c9_1 l97 l98 => iter (execG (inliner M_law08_ProgramPrefix F 0 C_law08_within) C_law08_within Tryz.f4.ntmps M_law08_ProgramPrefix F 2 (cL (cB (cS (cF (cS (cB (cF (cS (cL (cB (cS (cF (cS (cS (cS (cS (cS (cS (bo Tryz.f4)))))))))))))))))))) (M_law08_ProgramPrefix 0 2) n (r + 1) (st_law08_ProgramPrefix_1 t6 t11 t12 t13 c9_0 c9_1 l97 l98) K) = w_law08_ProgramPrefix_1 F  (fun t6 t11 t12 t13 c9_0 c9_1 l97 l98 => K (.exit 2) (st_law08_ProgramPrefix_1 t6 t11 t12 t13 c9_0 c9_1 l97 l98)) n := by
      funext t6 t11 t12 t13 c9_0 c9_1 l97 l98
      exact ih (r + 1) t6 t11 t12 t13 c9_0 c9_1 l97 l98
    rw [step_law08_ProgramPrefix_1, e]
    rfl
theorem nl_law08_ProgramPrefix_1 (F n r : Nat) (K : AEx → ASt UU → Prop) (t6 : Bool) (t11 : Int) (t12 : Bool) (t13 : Int) (c9_0 : List Seg) (c9_1 : List Rect) (l97 : List Seg) (l98 : List Rect) : iter (execG (inliner M_law08_ProgramPrefix F 0 C_law08_within) C_law08_within Tryz.f4.ntmps M_law08_ProgramPrefix F 2 (cL (cB (cS (cF (cS (cB (cF (cS (cL (cB (cS (cF (cS (cS (cS (cS (cS (cS (bo Tryz.f4)))))))))))))))))))) (M_law08_ProgramPrefix 0 2) F 0 (st_law08_ProgramPrefix_1 t6 t11 t12 t13 c9_0 c9_1 l97 l98) (k_law08_ProgramPrefix_1 F n r K) = n_law08_ProgramPrefix_1 F (fun t6 t11 c9_0 c9_1 l97 l98 => iter (execG (inliner M_law08_ProgramPrefix F 0 C_law08_within) C_law08_within Tryz.f4.ntmps M_law08_ProgramPrefix F 0 (cL (cB (cS (cF (cS (cS (cS (cS (cS (cS (bo Tryz.f4)))))))))))) (M_law08_ProgramPrefix 0 0) n (r + 1) (st_law08_ProgramPrefix_0 t6 t11 c9_0 c9_1 l97 l98) K) (fun t6 t11 c9_0 c9_1 l97 l98 => K (.exit 0) (st_law08_ProgramPrefix_0 t6 t11 c9_0 c9_1 l97 l98)) (fun t6 t11 c9_0 c9_1 l97 l98 => K .ret (st_law08_ProgramPrefix_0 t6 t11 c9_0 c9_1 l97 l98)) t6 t11 t12 t13 c9_0 c9_1 l97 l98 := by
  rw [loop_law08_ProgramPrefix_1]
  have h0 : (fun t6 t11 t12 t13 c9_0 c9_1 l97 l98 => k_law08_ProgramPrefix_1 F n r K (.exit 2) (st_law08_ProgramPrefix_1 t6 t11 t12 t13 c9_0 c9_1 l97 l98)) = (fun t6 t11 t12 t13 c9_0 c9_1 l97 l98 => g_law08_ProgramPrefix_c1_0 (fun t6 t11 c9_0 c9_1 l97 l98 => iter (execG (inliner M_law08_ProgramPrefix F 0 C_law08_within) C_law08_within Tryz.f4.ntmps M_law08_ProgramPrefix F 0 (cL (cB (cS (cF (cS (cS (cS (cS (cS (cS (bo Tryz.f4)))))))))))) (M_law08_ProgramPrefix 0 0) n (r + 1) (st_law08_ProgramPrefix_0 t6 t11 c9_0 c9_1 l97 l98) K) (fun t6 t11 c9_0 c9_1 l97 l98 => K (.exit 0) (st_law08_ProgramPrefix_0 t6 t11 c9_0 c9_1 l97 l98)) (fun t6 t11 c9_0 c9_1 l97 l98 => K .ret (st_law08_ProgramPrefix_0 t6 t11 c9_0 c9_1 l97 l98)) t6 t11 t12 t13 c9_0 c9_1 l97 l98) := by
    funext t6 t11 t12 t13 c9_0 c9_1 l97 l98
    rw [cont_law08_ProgramPrefix_1_0]
  rw [h0]
  rfl
theorem loop_law08_ProgramPrefix_0 (F : Nat) (K : AEx → ASt UU → Prop) : ∀ (n r : Nat) (t6 : Bool) (t11 : Int) (c9_0 : List Seg) (c9_1 : List Rect) (l97 : List Seg) (l98 : List Rect), iter (execG (inliner M_law08_ProgramPrefix F 0 C_law08_within) C_law08_within Tryz.f4.ntmps M_law08_ProgramPrefix F 0 (cL (cB (cS (cF (cS (cS (cS (cS (cS (cS (bo Tryz.f4)))))))))))) (M_law08_ProgramPrefix 0 0) n r (st_law08_ProgramPrefix_0 t6 t11 c9_0 c9_1 l97 l98) K = w_law08_ProgramPrefix_0 F  (fun t6 t11 c9_0 c9_1 l97 l98 => K (.exit 0) (st_law08_ProgramPrefix_0 t6 t11 c9_0 c9_1 l97 l98)) (fun t6 t11 c9_0 c9_1 l97 l98 => K .ret (st_law08_ProgramPrefix_0 t6 t11 c9_0 c9_1 l97 l98)) n t6 t11 c9_0 c9_1 l97 l98 := by
  intro n
  induction n with
  | zero => intros; rfl
  | succ n ih =>
    intro r t6 t11 c9_0 c9_1 l97 l98
    have e : (fun t6 t11 c9_0 c9_1 l97 l98 => iter (execG (inliner M_law08_ProgramPrefix F 0 C_law08_within) C_law08_within Tryz.f4.ntmps M_law08_ProgramPrefix F 0 (cL (cB (cS (cF (cS (cS (cS (cS (cS (cS (bo Tryz.f4)))))))))))) (M_law08_ProgramPrefix 0 0) n (r + 1) (st_law08_ProgramPrefix_0 t6 t11 c9_0 c9_1 l97 l98) K) = w_law08_ProgramPrefix_0 F  (fun t6 t11 c9_0 c9_1 l97 l98 => K (.exit 0) (st_law08_ProgramPrefix_0 t6 t11 c9_0 c9_1 l97 l98)) (fun t6 t11 c9_0 c9_1 l97 l98 => K .ret (st_law08_ProgramPrefix_0 t6 t11 c9_0 c9_1 l97 l98)) n := by
      funext t6 t11 c9_0 c9_1 l97 l98
      exact ih (r + 1) t6 t11 c9_0 c9_1 l97 l98
    have e1 : (fun t6 t11 t12 t13 c9_0 c9_1 l97 l98 => iter (execG (inliner M_law08_ProgramPrefix F 0 C_law08_within) C_law08_within Tryz.f4.ntmps M_law08_ProgramPrefix F 2 (cL (cB (cS (cF (cS (cB (cF (cS (cL (cB (cS (cF (cS (cS (cS (cS (cS (cS (bo Tryz.f4)))))))))))))))))))) (M_law08_ProgramPrefix 0 2) F 0 (st_law08_ProgramPrefix_1 t6 t11 t12 t13 c9_0 c9_1 l97 l98) (k_law08_ProgramPrefix_1 F n r K)) = (n_law08_ProgramPrefix_1 F (fun t6 t11 c9_0 c9_1 l97 l98 => iter (execG (inliner M_law08_ProgramPrefix F 0 C_law08_within) C_law08_within Tryz.f4.ntmps M_law08_ProgramPrefix F 0 (cL (cB (cS (cF (cS (cS (cS (cS (cS (cS (bo Tryz.f4)))))))))))) (M_law08_ProgramPrefix 0 0) n (r + 1) (st_law08_ProgramPrefix_0 t6 t11 c9_0 c9_1 l97 l98) K) (fun t6 t11 c9_0 c9_1 l97 l98 => K (.exit 0) (st_law08_ProgramPrefix_0 t6 t11 c9_0 c9_1 l97 l98)) (fun t6 t11 c9_0 c9_1 l97 l98 => K .ret (st_law08_ProgramPrefix_0 t6 t11 c9_0 c9_1 l97 l98))) := by
      funext t6 t11 t12 t13 c9_0 c9_1 l97 l98
      exact nl_law08_ProgramPrefix_1 F n r K t6 t11 t12 t13 c9_0 c9_1 l97 l98
    rw [step_law08_ProgramPrefix_0, e1, e]
    rfl
theorem nl_law08_ProgramPrefix_0 (F : Nat) (Post : AVal UU → Prop) (t6 : Bool) (t11 : Int) (c9_0 : List Seg) (c9_1 : List Rect) (l97 : List Seg) (l98 : List Rect) : iter (execG (inliner M_law08_ProgramPrefix F 0 C_law08_within) C_law08_within Tryz.f4.ntmps M_law08_ProgramPrefix F 0 (cL (cB (cS (cF (cS (cS (cS (cS (cS (cS (bo Tryz.f4)))))))))))) (M_law08_ProgramPrefix 0 0) F 0 (st_law08_ProgramPrefix_0 t6 t11 c9_0 c9_1 l97 l98) (k_law08_ProgramPrefix_0 F Post) = n_law08_ProgramPrefix_0 F (fun r0 => Post (.bool r0)) t6 t11 c9_0 c9_1 l97 l98 := by
  rw [loop_law08_ProgramPrefix_0]
  have h0 : (fun t6 t11 c9_0 c9_1 l97 l98 => k_law08_ProgramPrefix_0 F Post (.exit 0) (st_law08_ProgramPrefix_0 t6 t11 c9_0 c9_1 l97 l98)) = (fun t6 t11 c9_0 c9_1 l97 l98 => g_law08_ProgramPrefix_c0_0 (fun r0 => Post (.bool r0)) t6 t11 c9_0 c9_1 l97 l98) := by
    funext t6 t11 c9_0 c9_1 l97 l98
    rw [cont_law08_ProgramPrefix_0_0]
  have h1 : (fun t6 t11 c9_0 c9_1 l97 l98 => k_law08_ProgramPrefix_0 F Post .ret (st_law08_ProgramPrefix_0 t6 t11 c9_0 c9_1 l97 l98)) = (fun t6 t11 c9_0 c9_1 l97 l98 => g_law08_ProgramPrefix_c0_1 (fun r0 => Post (.bool r0)) t6 t11 c9_0 c9_1 l97 l98) := by
    funext t6 t11 c9_0 c9_1 l97 l98
    rw [cont_law08_ProgramPrefix_0_1]
  rw [h0, h1]
  rfl
theorem exec_law08_ProgramPrefix (F : Nat) (Post : AVal UU → Prop) (a0_Name : ByteArray) (a0_Material : ByteArray) (a0_Gauge : Int) (a0_Grain : Int) (a0_Width : Int) (a0_Height : Int) (a0_Clamps : List Rect) (a0_Used : List Rect) (a1 : List Opn) (a2_Kind : Int) (a2_X : Int) (a2_Y : Int) (a2_W : Int) (a2_H : Int) (a2_N : Int) : exec C_law08_within Tryz.f4.ntmps M_law08_ProgramPrefix F 0 (bo Tryz.f4) (initSt [.agg [.str a0_Name, .str a0_Material, .int .i64 a0_Gauge, .int .i64 a0_Grain, .int .i64 a0_Width, .int .i64 a0_Height, .sl .rect a0_Clamps, .sl .rect a0_Used], .sl .op a1, .agg [.int .i64 a2_Kind, .int .i64 a2_X, .int .i64 a2_Y, .int .i64 a2_W, .int .i64 a2_H, .int .i64 a2_N]]) (AEnds C_law08_within false Tryz.f4 Post) = w_law08_ProgramPrefix F a0_Name a0_Material a0_Gauge a0_Grain a0_Width a0_Height a0_Clamps a0_Used a1 a2_Kind a2_X a2_Y a2_W a2_H a2_N (fun r0 => Post (.bool r0)) := by
  rw [entry_law08_ProgramPrefix]
  have e0 : (fun t6 t11 c9_0 c9_1 l97 l98 => iter (execG (inliner M_law08_ProgramPrefix F 0 C_law08_within) C_law08_within Tryz.f4.ntmps M_law08_ProgramPrefix F 0 (cL (cB (cS (cF (cS (cS (cS (cS (cS (cS (bo Tryz.f4)))))))))))) (M_law08_ProgramPrefix 0 0) F 0 (st_law08_ProgramPrefix_0 t6 t11 c9_0 c9_1 l97 l98) (k_law08_ProgramPrefix_0 F Post)) = (n_law08_ProgramPrefix_0 F (fun r0 => Post (.bool r0))) := by
    funext t6 t11 c9_0 c9_1 l97 l98
    exact nl_law08_ProgramPrefix_0 F Post t6 t11 c9_0 c9_1 l97 l98
  rw [e0]
  rfl
end
end Go.Proofs.YteffpgliiilnjaaGreatDoor

namespace Go.Proofs.YteffpgliiilnjaaGreatDoor
open Go.Vm Go.ChangeShapes Go.WideShapes Go.ChangeAt Go.RowKit Go.Joins
set_option linter.unusedVariables false
set_option maxRecDepth 100000
noncomputable section

theorem inv1_pref {W : World} (hsh : W.ShapedOpen Tryz.prog) (hL : laidMetH Tryz.prog Rows.programPrefixRow.laid W) : inv1 W := by
  have hL' : laidMet Tryz.prog [("math/bits.deBruijn32tab", Rows.laid_math_bits_deBruijn32tab), ("math/bits.deBruijn64tab", Rows.laid_math_bits_deBruijn64tab), ("internal/strconv.uint64pow10", Rows.laid_internal_strconv_uint64pow10)] W ∧ handlesMet Tryz.prog [("errors.errorType", Rows.laid_errors_errorType)] W := hL
  have h3 := hL'.1.tail.tail
  rw [pow_data] at h3
  exact ⟨⟨inv0_of hsh, errT_of hL'.2 (List.mem_singleton.2 rfl)⟩, Lib.tabIs_of_head (g := 1) (t := 294) (by kernel_rfl) (by kernel_rfl) Tryz.underlying294 (by kernel_rfl) (by kernel_rfl) (by kernel_rfl) h3⟩

theorem walk_pref {v0 v1 v2 : Value} {nm mt : ByteArray} {g gr w h : Int} {cl us : List Rect} {l : List Opn} {o : Opn} (W : World) (hi : inv1 W) (hv0 : Rel EE W noOwn (Out' (fun _ => False) W) (AVal.agg [.str nm, .str mt, .int .i64 g, .int .i64 gr, .int .i64 w, .int .i64 h, .sl .rect cl, .sl .rect us] : AVal UU) v0) (hv1 : Rel EE W noOwn (Out' (fun _ => False) W) (AVal.sl .op l : AVal UU) v1) (hv2 : Rel EE W noOwn (Out' (fun _ => False) W) (AVal.agg [.int .i64 o.Kind, .int .i64 o.X, .int .i64 o.Y, .int .i64 o.W, .int .i64 o.H, .int .i64 o.N] : AVal UU) v2) :
    Calls Tryz.prog 4 #[v0, v1, v2] W fun e W' => e = .returned (.bool true) ∧ Below W.heap.size W W' := by
  refine law_callsM (fr := false) (C := C_law08_within) (c := bo Tryz.f4) (M := M_law08_ProgramPrefix) (fuel := 4001) s_law08_within mixed Tryz.func4 (by kernel_rfl) (xs := [.agg [.str nm, .str mt, .int .i64 g, .int .i64 gr, .int .i64 w, .int .i64 h, .sl .rect cl, .sl .rect us], .sl .op l, .agg [.int .i64 o.Kind, .int .i64 o.X, .int .i64 o.Y, .int .i64 o.W, .int .i64 o.H, .int .i64 o.N]]) hi ⟨rfl, fun k hk => ?_⟩ (by kernel_rfl) ⟨?_⟩
  · match k, hk with
    | 0, _ => exact hv0
    | 1, _ => exact hv1
    | 2, _ => exact hv2
  · rw [exec_law08_ProgramPrefix]
    refine cast ?_ (law_prefix nm mt g gr w h cl us l o.Kind o.X o.Y o.W o.H o.N)
    congr 1
    funext r
    simp

noncomputable def dataPrefix : List (String × DataW Unit) := Rows.programPrefixRow.laid.filter fun x => x.2.handleName?.isNone
noncomputable def worldPrefix (os : Os) : World := (world0 os).layVars Tryz.prog dataPrefix
theorem lifted_pref (os : Os) (started : os.Started) (H : Type) (enc : TypeId × Value → H) :
    ReturnsInHanded {} Tryz.checked os 4 .any (fun w args => (Rows.programPrefixSpec.pre enc Tryz.prog Tryz.f4 Rows.programPrefixRow.domain false w args ∧ laidMetH Tryz.prog Rows.programPrefixRow.laid w) ∧ sizedMet enc Tryz.prog Tryz.f4 (OpenSpec.ofChange Rows.programPrefixSpec) false w args)
      (Rows.programPrefixSpec.post enc Tryz.prog Tryz.f4 false true false false) := by
  refine handed_and_shaped (C := Tryz.checked) (X := fun w _ => laidMetH Tryz.prog Rows.programPrefixRow.laid w) (fun _ _ _ hh h => h.of_heap hh) own started (by kernel_rfl) Tryz.func4
    (ChangeSpec.witness_shaped (enc := enc) (C := Tryz.checked) (os := os) (X := fun w _ => laidMetH Tryz.prog Rows.programPrefixRow.laid w) false (worldPrefix os) #[.agg #[.string ByteArray.empty, .string ByteArray.empty, .int .i64 0, .int .i64 0, .int .i64 0, .int .i64 0, .slice none 0 0, .slice none 0 0], .slice none 0 0, .agg #[.int .i64 0, .int .i64 0, .int .i64 0, .int .i64 0, .int .i64 0, .int .i64 0]] 12 ((layVars_os' _ _ _).trans rfl)
      (World.shaped_of_ZipB (by kernel_rfl) (by kernel_rfl)) (by kernel_rfl) (by kernel_rfl) (by kernel_rfl)
      (laidMetH_of_parts (laidMet_of _ (by kernel_rfl) (by kernel_rfl)) (by kernel_rfl))) ?_
  intro W base args ds gs before hval0 hW hL hsh
  have hval : ∀ (j : Nat) t v, Tryz.f4.params[j]? = some t → args[j]? = some v → Value.okWide Tryz.prog W .any base t v := hval0
  have hsh' : W.ShapedOpen Tryz.prog := hsh
  have hW' := hW
  obtain ⟨p, q, hA0, hV, rfl, _, _⟩ := hW
  have hA : DataW.TrodAll enc Tryz.prog W 0 (fun _ => true) true Tryz.f4.params.toList args.toList ds p := hA0
  rw [Tryz.params4] at hA hval
  obtain ⟨v0, vs0, d0, ds0, p0, q0, hargs, rfl, rfl, h0, r0⟩ := trodAll_cons hA
  obtain ⟨v1, vs1, d1, ds1, p1, q1, rfl, rfl, rfl, h1, r1⟩ := trodAll_cons r0
  obtain ⟨v2, vs2, d2, ds2, p2, q2, rfl, rfl, rfl, h2, r2⟩ := trodAll_cons r1
  obtain ⟨rfl, rfl, rfl⟩ := trodAll_nil r2
  obtain rfl : args = #[v0, v1, v2] := by cases args; simp_all
  obtain ⟨nm, mt, g, gr, w, h, cl, us, _, hr0⟩ := open_sheet (hval 0 24 v0 rfl rfl) h0
  obtain ⟨l, hr1⟩ := open_ops (hval 1 25 v1 rfl rfl) h1
  obtain ⟨o, hr2⟩ := open_op (hval 2 40 v2 rfl rfl) h2
  refine (walk_pref W (inv1_pref hsh' hL) hr0 hr1 hr2).mono fun e W' ⟨he, hb⟩ => ?_
  subst he
  exact ⟨_, rfl, law_post (tb := 4) laidOut (by kernel_rfl) rfl Tryz.underlying4 rfl rfl hW' hb⟩

theorem pref : Rows.ProgramPrefixSaid :=
  OpenClaim.holds_of_wide 4 Tryz.f4 rfl rfl rfl rfl rfl rfl rfl ⟨rfl, rfl, rfl, rfl, rfl⟩ rfl rfl rfl rfl rfl (by kernel_rfl) Tryz.func4 (by kernel_rfl)
    (of_decide_eq_true (by kernel_rfl)) (by unfold Func.isWrapper; first | (rw [if_pos (by decide +kernel)]; kernel_rfl) | (rw [if_neg (by decide +kernel)]; exact ⟨rfl, rfl⟩))
    (fun os started H enc _ => lifted_pref os started H enc)
theorem prefCard : Rows.ProgramPrefixCardSaid :=
  Claim7.holds_tied_plain_at .later [] [.data, .data, .data, .handle] true (true, "197df94023b3ee2ebca0cd2fe4d46dd6ddeb1d85c11d0e607dd4c1b498a23b3b") true
    pref (fun _ h => by cases h) (by kernel_rfl) (fun _ h => by cases h) programPrefix_row_tie rfl ⟨rfl, rfl⟩ (by kernel_rfl) rfl
    (fun f fn hf hfn => by
      obtain rfl : f = 4 := Option.some.inj ((show Tryz.prog.funcNamed "sheetmetal/sheetmetallaw08.ProgramPrefix" = some 4 by kernel_rfl).symm.trans hf) |>.symm
      obtain rfl : fn = Tryz.f4 := (Option.some.inj (Tryz.func4.symm.trans hfn)).symm
      exact ⟨by kernel_rfl, fun j t ht => by
        rw [Tryz.params4] at ht
        have h3 : t = 24 ∨ t = 25 ∨ t = 40 := by
          rcases j with _ | _ | _ | j
          · have e : t = 24 := by simpa using ht.symm
            simp [e]
          · have e : t = 25 := by simpa using ht.symm
            simp [e]
          · have e : t = 40 := by simpa using ht.symm
            simp [e]
          · simp at ht
        rcases h3 with rfl | rfl | rfl
        · exact (show Tryz.prog.wantsStandIn 24 = false by kernel_rfl)
        · exact (show Tryz.prog.wantsStandIn 25 = false by kernel_rfl)
        · exact (show Tryz.prog.wantsStandIn 40 = false by kernel_rfl)⟩)
    (by kernel_rfl)
end
end Go.Proofs.YteffpgliiilnjaaGreatDoor
