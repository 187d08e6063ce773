/-
  No cell of these rows narrows 'for every input' (looked for: loops, veiled, ifaces, maps, wideKeys, modest, calm, conditions, laid).
  DERIVED. THE GIVEN ROWS OF THIS SEAT. 5 by the template 'for every input the law returns true; each argument reads behind the call as it read before'; 0 by the template 'total and deterministic' (their statements: YtohecfbnmmgimaaTotals.lean).
  GIVEN WITH THE SEED: the statements are not yours to turn. If you find one false, say at which input.
  Laid BY PROGRAM, IN A SANDBOX (cutbox-rows.mjs): the forced cells as the released guide's own fill.sh prints them over the translation 37de3b752f3c9a69… (all of the seat's roots in one cut). By AI agents, Wed Nov 11 2026. No macro, syntax, notation, axiom, sorry.
-/
import Derived.Test.YtohecfbnmmgimaaChecked
import GoSem.Claim
import GoSem.ClaimJoined
import GoSem.ClaimMapViews
import Derived.JoinedTies
import Derived.KernelRfl
namespace Go.Proofs.Ytohecfbnmmgimaa
/- THE CELL 'sum', in the pinned program and in every row, IS THE sha256 OF THE DUMP (.gsa) THAT YtohecfbnmmgimaaProg.lean LOADS. Nothing in Lean hashes anything: it is a label: what it is worth is what the hold of that sum in a sandbox is worth. -/
noncomputable def Try.pinned : Pinned := { name := "ytohecfbnmmgimaa", sum := "37de3b752f3c9a695d22cfc1452f15df1d7938e60d966ecb6c105e29be91e55e", checked := Try.checked }
namespace Rows
def none {H : Type} : Left H := { results := [], args := [] }

/-- 'sheetmetallaw03.FlatSettles': WHATEVER THE INPUT: true; the input reads as it did. -/
def flatSettlesSpec : ChangeSpec := { name := "flatSettles", fn := fun _ => fun
  | [d1, d2] => { results := [.lit (.bool true)], args := [d1, d2] }
  | _ => none }
def flatSettlesRow : OpenClaim := { program := "ytohecfbnmmgimaa", sum := "37de3b752f3c9a695d22cfc1452f15df1d7938e60d966ecb6c105e29be91e55e", func := "sheetmetal/sheetmetallaw03.FlatSettles", spec := "flatSettles", unfollowed := true, recurses := true, apart := false }
def FlatSettlesSaid : Prop := flatSettlesRow.holds Try.pinned (OpenSpec.ofChange flatSettlesSpec)

/-- ITS FALSE NEIGHBOUR: 'it returns false'. Refute it at one input. -/
def flatSettlesWrong : ChangeSpec := { name := "flatSettles", fn := fun _ => fun
  | [d1, d2] => { results := [.lit (.bool false)], args := [d1, d2] }
  | _ => none }
def FlatSettlesWrongFalsely : Prop := flatSettlesRow.holds Try.pinned (OpenSpec.ofChange flatSettlesWrong)

/-- 'sheetmetallaw03.FlatTables': WHATEVER THE INPUT: true; the input reads as it did. -/
def flatTablesSpec : ChangeSpec := { name := "flatTables", fn := fun _ => fun
  | [d1, d2] => { results := [.lit (.bool true)], args := [d1, d2] }
  | _ => none }
def flatTablesRow : OpenClaim := { program := "ytohecfbnmmgimaa", sum := "37de3b752f3c9a695d22cfc1452f15df1d7938e60d966ecb6c105e29be91e55e", func := "sheetmetal/sheetmetallaw03.FlatTables", spec := "flatTables", inPlace := ["internal/bytealg.IndexByteString", "internal/bytealg.IndexString"], named := ["internal/bytealg.MaxLen"], apart := false }
def FlatTablesSaid : Prop := flatTablesRow.holds Try.pinned (OpenSpec.ofChange flatTablesSpec)

/-- ITS FALSE NEIGHBOUR: 'it returns false'. Refute it at one input. -/
def flatTablesWrong : ChangeSpec := { name := "flatTables", fn := fun _ => fun
  | [d1, d2] => { results := [.lit (.bool false)], args := [d1, d2] }
  | _ => none }
def FlatTablesWrongFalsely : Prop := flatTablesRow.holds Try.pinned (OpenSpec.ofChange flatTablesWrong)

/-- 'sheetmetallaw03.FlatDeductions': WHATEVER THE INPUT: true; the input reads as it did. -/
def flatDeductionsSpec : ChangeSpec := { name := "flatDeductions", fn := fun _ => fun
  | [d1, d2] => { results := [.lit (.bool true)], args := [d1, d2] }
  | _ => none }
def flatDeductionsRow : OpenClaim := { program := "ytohecfbnmmgimaa", sum := "37de3b752f3c9a695d22cfc1452f15df1d7938e60d966ecb6c105e29be91e55e", func := "sheetmetal/sheetmetallaw03.FlatDeductions", spec := "flatDeductions", inPlace := ["internal/bytealg.IndexByteString", "internal/bytealg.IndexString"], named := ["internal/bytealg.MaxLen"], apart := false }
def FlatDeductionsSaid : Prop := flatDeductionsRow.holds Try.pinned (OpenSpec.ofChange flatDeductionsSpec)

/-- ITS FALSE NEIGHBOUR: 'it returns false'. Refute it at one input. -/
def flatDeductionsWrong : ChangeSpec := { name := "flatDeductions", fn := fun _ => fun
  | [d1, d2] => { results := [.lit (.bool false)], args := [d1, d2] }
  | _ => none }
def FlatDeductionsWrongFalsely : Prop := flatDeductionsRow.holds Try.pinned (OpenSpec.ofChange flatDeductionsWrong)

/-- 'sheetmetallaw03.FlatSurfaces': WHATEVER THE INPUT: true; the input reads as it did. -/
def flatSurfacesSpec : ChangeSpec := { name := "flatSurfaces", fn := fun _ => fun
  | [d] => { results := [.lit (.bool true)], args := [d] }
  | _ => none }
def flatSurfacesRow : OpenClaim := { program := "ytohecfbnmmgimaa", sum := "37de3b752f3c9a695d22cfc1452f15df1d7938e60d966ecb6c105e29be91e55e", func := "sheetmetal/sheetmetallaw03.FlatSurfaces", spec := "flatSurfaces", unfollowed := true, recurses := true, apart := false }
def FlatSurfacesSaid : Prop := flatSurfacesRow.holds Try.pinned (OpenSpec.ofChange flatSurfacesSpec)

/-- ITS FALSE NEIGHBOUR: 'it returns false'. Refute it at one input. -/
def flatSurfacesWrong : ChangeSpec := { name := "flatSurfaces", fn := fun _ => fun
  | [d] => { results := [.lit (.bool false)], args := [d] }
  | _ => none }
def FlatSurfacesWrongFalsely : Prop := flatSurfacesRow.holds Try.pinned (OpenSpec.ofChange flatSurfacesWrong)

/-- 'sheetmetallaw03.FlatTurnsBack': WHATEVER THE INPUT: true; the input reads as it did. -/
def flatTurnsBackSpec : ChangeSpec := { name := "flatTurnsBack", fn := fun _ => fun
  | [d1, d2, d3] => { results := [.lit (.bool true)], args := [d1, d2, d3] }
  | _ => none }
def flatTurnsBackRow : OpenClaim := { program := "ytohecfbnmmgimaa", sum := "37de3b752f3c9a695d22cfc1452f15df1d7938e60d966ecb6c105e29be91e55e", func := "sheetmetal/sheetmetallaw03.FlatTurnsBack", spec := "flatTurnsBack", unfollowed := true, recurses := true, apart := false }
def FlatTurnsBackSaid : Prop := flatTurnsBackRow.holds Try.pinned (OpenSpec.ofChange flatTurnsBackSpec)

/-- ITS FALSE NEIGHBOUR: 'it returns false'. Refute it at one input. -/
def flatTurnsBackWrong : ChangeSpec := { name := "flatTurnsBack", fn := fun _ => fun
  | [d1, d2, d3] => { results := [.lit (.bool false)], args := [d1, d2, d3] }
  | _ => none }
def FlatTurnsBackWrongFalsely : Prop := flatTurnsBackRow.holds Try.pinned (OpenSpec.ofChange flatTurnsBackWrong)

/- THE SECOND FORM. 'bulk': how many values and letters a reading holds, each counted each time it is reached (what is shared counts as often as it is met; a slice's spare places count too). A statement '..UptoSaid' is the law's where the arguments, and the package variables that the reading takes, are together of bulk at most 1048576: NARROWER than '..Said'. Prove '..Said' where nothing that the law and all that it calls make is longer than what came in: it says more and counts as full. Else prove '..UptoSaid'. A law counts once. -/
mutual
def uptoBulk {H : Type} : DataW H → Nat
  | .lit (.string bytes) => bytes.length + 1
  | .lit _ => 1
  | .nil => 1
  | .ptr d => uptoBulk d + 1
  | .slice elems spare => uptoBulkAll elems + uptoBulkAll spare + 1
  | .agg parts => uptoBulkAll parts + 1
  | .iface _ d => uptoBulk d + 1
  | .map entries => uptoBulkEntries entries + 1
  | .held _ => 1
def uptoBulkAll {H : Type} : List (DataW H) → Nat
  | [] => 0
  | d :: r => uptoBulk d + uptoBulkAll r
def uptoBulkEntries {H : Type} : List (Lit × DataW H) → Nat
  | [] => 0
  | x :: r => uptoBulkEntry x + uptoBulkEntries r
def uptoBulkEntry {H : Type} : Lit × DataW H → Nat
  | (.string bytes, d) => bytes.length + uptoBulk d + 1
  | (_, d) => uptoBulk d + 1
 end
def uptoSmall : (H : Type) → List (DataW H) → Bool := fun _ ds => decide (uptoBulkAll ds ≤ 1048576)
def OpenSpec.upto (s : _root_.Go.ChangeSpec) : _root_.Go.OpenSpec := { _root_.Go.OpenSpec.ofChange s with cond := some uptoSmall }

/-- 'sheetmetallaw03.FlatSettles', WHERE WHAT IT READS IS OF BULK AT MOST 1048576: true; the input reads as it did. -/
def flatSettlesUptoRow : OpenClaim := { program := "ytohecfbnmmgimaa", sum := "37de3b752f3c9a695d22cfc1452f15df1d7938e60d966ecb6c105e29be91e55e", func := "sheetmetal/sheetmetallaw03.FlatSettles", spec := "flatSettles", unfollowed := true, recurses := true, apart := false, narrowed := true }
def FlatSettlesUptoSaid : Prop := flatSettlesUptoRow.holds Try.pinned (OpenSpec.upto flatSettlesSpec)

/-- 'sheetmetallaw03.FlatTables', WHERE WHAT IT READS IS OF BULK AT MOST 1048576: true; the input reads as it did. -/
def flatTablesUptoRow : OpenClaim := { program := "ytohecfbnmmgimaa", sum := "37de3b752f3c9a695d22cfc1452f15df1d7938e60d966ecb6c105e29be91e55e", func := "sheetmetal/sheetmetallaw03.FlatTables", spec := "flatTables", inPlace := ["internal/bytealg.IndexByteString", "internal/bytealg.IndexString"], named := ["internal/bytealg.MaxLen"], apart := false, narrowed := true }
def FlatTablesUptoSaid : Prop := flatTablesUptoRow.holds Try.pinned (OpenSpec.upto flatTablesSpec)

/-- 'sheetmetallaw03.FlatDeductions', WHERE WHAT IT READS IS OF BULK AT MOST 1048576: true; the input reads as it did. -/
def flatDeductionsUptoRow : OpenClaim := { program := "ytohecfbnmmgimaa", sum := "37de3b752f3c9a695d22cfc1452f15df1d7938e60d966ecb6c105e29be91e55e", func := "sheetmetal/sheetmetallaw03.FlatDeductions", spec := "flatDeductions", inPlace := ["internal/bytealg.IndexByteString", "internal/bytealg.IndexString"], named := ["internal/bytealg.MaxLen"], apart := false, narrowed := true }
def FlatDeductionsUptoSaid : Prop := flatDeductionsUptoRow.holds Try.pinned (OpenSpec.upto flatDeductionsSpec)

/-- 'sheetmetallaw03.FlatSurfaces', WHERE WHAT IT READS IS OF BULK AT MOST 1048576: true; the input reads as it did. -/
def flatSurfacesUptoRow : OpenClaim := { program := "ytohecfbnmmgimaa", sum := "37de3b752f3c9a695d22cfc1452f15df1d7938e60d966ecb6c105e29be91e55e", func := "sheetmetal/sheetmetallaw03.FlatSurfaces", spec := "flatSurfaces", unfollowed := true, recurses := true, apart := false, narrowed := true }
def FlatSurfacesUptoSaid : Prop := flatSurfacesUptoRow.holds Try.pinned (OpenSpec.upto flatSurfacesSpec)

/-- 'sheetmetallaw03.FlatTurnsBack', WHERE WHAT IT READS IS OF BULK AT MOST 1048576: true; the input reads as it did. -/
def flatTurnsBackUptoRow : OpenClaim := { program := "ytohecfbnmmgimaa", sum := "37de3b752f3c9a695d22cfc1452f15df1d7938e60d966ecb6c105e29be91e55e", func := "sheetmetal/sheetmetallaw03.FlatTurnsBack", spec := "flatTurnsBack", unfollowed := true, recurses := true, apart := false, narrowed := true }
def FlatTurnsBackUptoSaid : Prop := flatTurnsBackUptoRow.holds Try.pinned (OpenSpec.upto flatTurnsBackSpec)

end Rows
end Go.Proofs.Ytohecfbnmmgimaa
