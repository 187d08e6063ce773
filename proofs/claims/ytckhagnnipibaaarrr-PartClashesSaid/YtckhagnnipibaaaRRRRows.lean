/-
  No cell of these rows narrows 'for every input' (looked for: loops, veiled, ifaces, maps, wideKeys, modest, calm, conditions, laid).
  DERIVED. THE GIVEN ROWS OF THIS SEAT. 3 by the template 'for every input the law returns true; each argument reads behind the call as it read before'; 0 by the template 'total and deterministic' (their statements: YtckhagnnipibaaaRRRTotals.lean).
  GIVEN WITH THE SEED: the statements are not yours to turn. If you find one false, say at which input.
  Laid BY PROGRAM, IN A SANDBOX (cutbox-rows.mjs): the forced cells as the released guide's own fill.sh prints them over the translation 700122e6643fb686… (all of the seat's roots in one cut). By AI agents, Wed Nov 11 2026. No macro, syntax, notation, axiom, sorry.
-/
import Derived.Test.YtckhagnnipibaaaRRRChecked
import GoSem.Claim
import GoSem.ClaimJoined
import GoSem.ClaimMapViews
import Derived.JoinedTies
import Derived.KernelRfl
namespace Go.Proofs.YtckhagnnipibaaaRRR
/- THE CELL 'sum', in the pinned program and in every row, IS THE sha256 OF THE DUMP (.gsa) THAT YtckhagnnipibaaaRRRProg.lean LOADS. Nothing in Lean hashes anything: it is a label: what it is worth is what the hold of that sum in a sandbox is worth. -/
noncomputable def Try.pinned : Pinned := { name := "ytckhagnnipibaaarrr", sum := "700122e6643fb68658028af6d9e0e6a51878982498a00c9db8058568799ccbac", checked := Try.checked }
namespace Rows
def none {H : Type} : Left H := { results := [], args := [] }

/-- 'sheetmetallaw02.PartNames': WHATEVER THE INPUT: true; the input reads as it did. -/
def partNamesSpec : ChangeSpec := { name := "partNames", fn := fun _ => fun
  | [d] => { results := [.lit (.bool true)], args := [d] }
  | _ => none }
def partNamesRow : OpenClaim := { program := "ytckhagnnipibaaarrr", sum := "700122e6643fb68658028af6d9e0e6a51878982498a00c9db8058568799ccbac", func := "sheetmetal/sheetmetallaw02.PartNames", spec := "partNames", inPlace := ["internal/bytealg.IndexByteString", "internal/bytealg.IndexString"], named := ["internal/bytealg.MaxLen"], apart := false }
def PartNamesSaid : Prop := partNamesRow.holds Try.pinned (OpenSpec.ofChange partNamesSpec)

/-- ITS FALSE NEIGHBOUR: 'it returns false'. Refute it at one input. -/
def partNamesWrong : ChangeSpec := { name := "partNames", fn := fun _ => fun
  | [d] => { results := [.lit (.bool false)], args := [d] }
  | _ => none }
def PartNamesWrongFalsely : Prop := partNamesRow.holds Try.pinned (OpenSpec.ofChange partNamesWrong)

/-- 'sheetmetallaw02.PartCorners': WHATEVER THE INPUT: true; the input reads as it did. -/
def partCornersSpec : ChangeSpec := { name := "partCorners", fn := fun _ => fun
  | [d] => { results := [.lit (.bool true)], args := [d] }
  | _ => none }
def partCornersRow : OpenClaim := { program := "ytckhagnnipibaaarrr", sum := "700122e6643fb68658028af6d9e0e6a51878982498a00c9db8058568799ccbac", func := "sheetmetal/sheetmetallaw02.PartCorners", spec := "partCorners", inPlace := ["internal/bytealg.IndexByteString", "internal/bytealg.IndexString"], named := ["internal/bytealg.MaxLen"], apart := false }
def PartCornersSaid : Prop := partCornersRow.holds Try.pinned (OpenSpec.ofChange partCornersSpec)

/-- ITS FALSE NEIGHBOUR: 'it returns false'. Refute it at one input. -/
def partCornersWrong : ChangeSpec := { name := "partCorners", fn := fun _ => fun
  | [d] => { results := [.lit (.bool false)], args := [d] }
  | _ => none }
def PartCornersWrongFalsely : Prop := partCornersRow.holds Try.pinned (OpenSpec.ofChange partCornersWrong)

/-- 'sheetmetallaw02.PartClashes': WHATEVER THE INPUT: true; the input reads as it did. -/
def partClashesSpec : ChangeSpec := { name := "partClashes", fn := fun _ => fun
  | [d1, d2] => { results := [.lit (.bool true)], args := [d1, d2] }
  | _ => none }
def partClashesRow : OpenClaim := { program := "ytckhagnnipibaaarrr", sum := "700122e6643fb68658028af6d9e0e6a51878982498a00c9db8058568799ccbac", func := "sheetmetal/sheetmetallaw02.PartClashes", spec := "partClashes", inPlace := ["internal/bytealg.IndexByteString", "internal/bytealg.IndexString"], named := ["internal/bytealg.MaxLen"], apart := false }
def PartClashesSaid : Prop := partClashesRow.holds Try.pinned (OpenSpec.ofChange partClashesSpec)

/-- ITS FALSE NEIGHBOUR: 'it returns false'. Refute it at one input. -/
def partClashesWrong : ChangeSpec := { name := "partClashes", fn := fun _ => fun
  | [d1, d2] => { results := [.lit (.bool false)], args := [d1, d2] }
  | _ => none }
def PartClashesWrongFalsely : Prop := partClashesRow.holds Try.pinned (OpenSpec.ofChange partClashesWrong)

/- THE SECOND FORM. 'bulk': how many values and letters a reading holds, each counted each time it is reached (what is shared counts as often as it is met; a slice's spare places count too). A statement '..UptoSaid' is the law's where the arguments, and the package variables that the reading takes, are together of bulk at most 1048576: NARROWER than '..Said'. Prove '..Said' where nothing that the law and all that it calls make is longer than what came in: it says more and counts as full. Else prove '..UptoSaid'. A law counts once. -/
mutual
def uptoBulk {H : Type} : DataW H → Nat
  | .lit (.string bytes) => bytes.length + 1
  | .lit _ => 1
  | .nil => 1
  | .ptr d => uptoBulk d + 1
  | .slice elems spare => uptoBulkAll elems + uptoBulkAll spare + 1
  | .agg parts => uptoBulkAll parts + 1
  | .iface _ d => uptoBulk d + 1
  | .map entries => uptoBulkEntries entries + 1
  | .held _ => 1
def uptoBulkAll {H : Type} : List (DataW H) → Nat
  | [] => 0
  | d :: r => uptoBulk d + uptoBulkAll r
def uptoBulkEntries {H : Type} : List (Lit × DataW H) → Nat
  | [] => 0
  | x :: r => uptoBulkEntry x + uptoBulkEntries r
def uptoBulkEntry {H : Type} : Lit × DataW H → Nat
  | (.string bytes, d) => bytes.length + uptoBulk d + 1
  | (_, d) => uptoBulk d + 1
 end
def uptoSmall : (H : Type) → List (DataW H) → Bool := fun _ ds => decide (uptoBulkAll ds ≤ 1048576)
def OpenSpec.upto (s : _root_.Go.ChangeSpec) : _root_.Go.OpenSpec := { _root_.Go.OpenSpec.ofChange s with cond := some uptoSmall }

/-- 'sheetmetallaw02.PartNames', WHERE WHAT IT READS IS OF BULK AT MOST 1048576: true; the input reads as it did. -/
def partNamesUptoRow : OpenClaim := { program := "ytckhagnnipibaaarrr", sum := "700122e6643fb68658028af6d9e0e6a51878982498a00c9db8058568799ccbac", func := "sheetmetal/sheetmetallaw02.PartNames", spec := "partNames", inPlace := ["internal/bytealg.IndexByteString", "internal/bytealg.IndexString"], named := ["internal/bytealg.MaxLen"], apart := false, narrowed := true }
def PartNamesUptoSaid : Prop := partNamesUptoRow.holds Try.pinned (OpenSpec.upto partNamesSpec)

/-- 'sheetmetallaw02.PartCorners', WHERE WHAT IT READS IS OF BULK AT MOST 1048576: true; the input reads as it did. -/
def partCornersUptoRow : OpenClaim := { program := "ytckhagnnipibaaarrr", sum := "700122e6643fb68658028af6d9e0e6a51878982498a00c9db8058568799ccbac", func := "sheetmetal/sheetmetallaw02.PartCorners", spec := "partCorners", inPlace := ["internal/bytealg.IndexByteString", "internal/bytealg.IndexString"], named := ["internal/bytealg.MaxLen"], apart := false, narrowed := true }
def PartCornersUptoSaid : Prop := partCornersUptoRow.holds Try.pinned (OpenSpec.upto partCornersSpec)

/-- 'sheetmetallaw02.PartClashes', WHERE WHAT IT READS IS OF BULK AT MOST 1048576: true; the input reads as it did. -/
def partClashesUptoRow : OpenClaim := { program := "ytckhagnnipibaaarrr", sum := "700122e6643fb68658028af6d9e0e6a51878982498a00c9db8058568799ccbac", func := "sheetmetal/sheetmetallaw02.PartClashes", spec := "partClashes", inPlace := ["internal/bytealg.IndexByteString", "internal/bytealg.IndexString"], named := ["internal/bytealg.MaxLen"], apart := false, narrowed := true }
def PartClashesUptoSaid : Prop := partClashesUptoRow.holds Try.pinned (OpenSpec.upto partClashesSpec)

end Rows
end Go.Proofs.YtckhagnnipibaaaRRR
