/-
  No cell of these rows narrows 'for every input' (looked for: loops, veiled, ifaces, maps, wideKeys, modest, calm, conditions, laid).
  DERIVED. THE GIVEN ROWS OF THIS SEAT. 2 by the template 'for every input the law returns true; each argument reads behind the call as it read before'; 0 by the template 'total and deterministic' (their statements: YtbfcodlpbemkoaaTotals.lean).
  GIVEN WITH THE SEED: the statements are not yours to turn. If you find one false, say at which input.
  Laid BY PROGRAM, IN A SANDBOX (cutbox-rows.mjs): the forced cells as the released guide's own fill.sh prints them over the translation fe27b6b8f5409637… (all of the seat's roots in one cut). By AI agents, Wed Nov 11 2026. No macro, syntax, notation, axiom, sorry.
-/
import Derived.Test.YtbfcodlpbemkoaaChecked
import GoSem.Claim
import GoSem.ClaimJoined
import GoSem.ClaimMapViews
import Derived.JoinedTies
import Derived.KernelRfl
namespace Go.Proofs.Ytbfcodlpbemkoaa
/- THE CELL 'sum', in the pinned program and in every row, IS THE sha256 OF THE DUMP (.gsa) THAT YtbfcodlpbemkoaaProg.lean LOADS. Nothing in Lean hashes anything: it is a label: what it is worth is what the hold of that sum in a sandbox is worth. -/
noncomputable def Try.pinned : Pinned := { name := "ytbfcodlpbemkoaa", sum := "fe27b6b8f5409637ee363a777983cc590638d69b7f8ff1e976b147f57c3ff090", checked := Try.checked }
namespace Rows
def none {H : Type} : Left H := { results := [], args := [] }

/-- 'sheetmetallaw03.FlatRationals': WHATEVER THE INPUT: true; the input reads as it did. -/
def flatRationalsSpec : ChangeSpec := { name := "flatRationals", fn := fun _ => fun
  | [d1, d2] => { results := [.lit (.bool true)], args := [d1, d2] }
  | _ => none }
def flatRationalsRow : OpenClaim := { program := "ytbfcodlpbemkoaa", sum := "fe27b6b8f5409637ee363a777983cc590638d69b7f8ff1e976b147f57c3ff090", func := "sheetmetal/sheetmetallaw03.FlatRationals", spec := "flatRationals", apart := false }
def FlatRationalsSaid : Prop := flatRationalsRow.holds Try.pinned (OpenSpec.ofChange flatRationalsSpec)

/-- ITS FALSE NEIGHBOUR: 'it returns false'. Refute it at one input. -/
def flatRationalsWrong : ChangeSpec := { name := "flatRationals", fn := fun _ => fun
  | [d1, d2] => { results := [.lit (.bool false)], args := [d1, d2] }
  | _ => none }
def FlatRationalsWrongFalsely : Prop := flatRationalsRow.holds Try.pinned (OpenSpec.ofChange flatRationalsWrong)

/-- 'sheetmetallaw03.FlatAdds': WHATEVER THE INPUT: true; the input reads as it did. -/
def flatAddsSpec : ChangeSpec := { name := "flatAdds", fn := fun _ => fun
  | [d1, d2, d3] => { results := [.lit (.bool true)], args := [d1, d2, d3] }
  | _ => none }
def flatAddsRow : OpenClaim := { program := "ytbfcodlpbemkoaa", sum := "fe27b6b8f5409637ee363a777983cc590638d69b7f8ff1e976b147f57c3ff090", func := "sheetmetal/sheetmetallaw03.FlatAdds", spec := "flatAdds", apart := false }
def FlatAddsSaid : Prop := flatAddsRow.holds Try.pinned (OpenSpec.ofChange flatAddsSpec)

/-- ITS FALSE NEIGHBOUR: 'it returns false'. Refute it at one input. -/
def flatAddsWrong : ChangeSpec := { name := "flatAdds", fn := fun _ => fun
  | [d1, d2, d3] => { results := [.lit (.bool false)], args := [d1, d2, d3] }
  | _ => none }
def FlatAddsWrongFalsely : Prop := flatAddsRow.holds Try.pinned (OpenSpec.ofChange flatAddsWrong)

/- THE SECOND FORM. 'bulk': how many values and letters a reading holds, each counted each time it is reached (what is shared counts as often as it is met; a slice's spare places count too). A statement '..UptoSaid' is the law's where the arguments, and the package variables that the reading takes, are together of bulk at most 1048576: NARROWER than '..Said'. Prove '..Said' where nothing that the law and all that it calls make is longer than what came in: it says more and counts as full. Else prove '..UptoSaid'. A law counts once. -/
mutual
def uptoBulk {H : Type} : DataW H → Nat
  | .lit (.string bytes) => bytes.length + 1
  | .lit _ => 1
  | .nil => 1
  | .ptr d => uptoBulk d + 1
  | .slice elems spare => uptoBulkAll elems + uptoBulkAll spare + 1
  | .agg parts => uptoBulkAll parts + 1
  | .iface _ d => uptoBulk d + 1
  | .map entries => uptoBulkEntries entries + 1
  | .held _ => 1
def uptoBulkAll {H : Type} : List (DataW H) → Nat
  | [] => 0
  | d :: r => uptoBulk d + uptoBulkAll r
def uptoBulkEntries {H : Type} : List (Lit × DataW H) → Nat
  | [] => 0
  | x :: r => uptoBulkEntry x + uptoBulkEntries r
def uptoBulkEntry {H : Type} : Lit × DataW H → Nat
  | (.string bytes, d) => bytes.length + uptoBulk d + 1
  | (_, d) => uptoBulk d + 1
 end
def uptoSmall : (H : Type) → List (DataW H) → Bool := fun _ ds => decide (uptoBulkAll ds ≤ 1048576)
def OpenSpec.upto (s : _root_.Go.ChangeSpec) : _root_.Go.OpenSpec := { _root_.Go.OpenSpec.ofChange s with cond := some uptoSmall }

/-- 'sheetmetallaw03.FlatRationals', WHERE WHAT IT READS IS OF BULK AT MOST 1048576: true; the input reads as it did. -/
def flatRationalsUptoRow : OpenClaim := { program := "ytbfcodlpbemkoaa", sum := "fe27b6b8f5409637ee363a777983cc590638d69b7f8ff1e976b147f57c3ff090", func := "sheetmetal/sheetmetallaw03.FlatRationals", spec := "flatRationals", apart := false, narrowed := true }
def FlatRationalsUptoSaid : Prop := flatRationalsUptoRow.holds Try.pinned (OpenSpec.upto flatRationalsSpec)

/-- 'sheetmetallaw03.FlatAdds', WHERE WHAT IT READS IS OF BULK AT MOST 1048576: true; the input reads as it did. -/
def flatAddsUptoRow : OpenClaim := { program := "ytbfcodlpbemkoaa", sum := "fe27b6b8f5409637ee363a777983cc590638d69b7f8ff1e976b147f57c3ff090", func := "sheetmetal/sheetmetallaw03.FlatAdds", spec := "flatAdds", apart := false, narrowed := true }
def FlatAddsUptoSaid : Prop := flatAddsUptoRow.holds Try.pinned (OpenSpec.upto flatAddsSpec)

end Rows
end Go.Proofs.Ytbfcodlpbemkoaa
