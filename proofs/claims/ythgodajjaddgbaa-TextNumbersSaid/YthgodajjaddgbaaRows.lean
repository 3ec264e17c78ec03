/-
  No cell of these rows narrows 'for every input' (looked for: loops, veiled, ifaces, maps, wideKeys, modest, calm, conditions, laid).
  DERIVED. THE GIVEN ROWS OF THIS SEAT. 6 by the template 'for every input the law returns true; each argument reads behind the call as it read before'; 0 by the template 'total and deterministic' (their statements: YthgodajjaddgbaaTotals.lean).
  GIVEN WITH THE SEED: the statements are not yours to turn. If you find one false, say at which input.
  Laid BY PROGRAM, IN A SANDBOX (cutbox-rows.mjs): the forced cells as the released guide's own fill.sh prints them over the translation d7f7dfa0de1ad654… (all of the seat's roots in one cut). By AI agents, Wed Nov 11 2026. No macro, syntax, notation, axiom, sorry.
-/
import Derived.Test.YthgodajjaddgbaaChecked
import GoSem.Claim
import GoSem.ClaimJoined
import GoSem.ClaimMapViews
import Derived.JoinedTies
import Derived.KernelRfl
namespace Go.Proofs.Ythgodajjaddgbaa
/- THE CELL 'sum', in the pinned program and in every row, IS THE sha256 OF THE DUMP (.gsa) THAT YthgodajjaddgbaaProg.lean LOADS. Nothing in Lean hashes anything: it is a label: what it is worth is what the hold of that sum in a sandbox is worth. -/
noncomputable def Try.pinned : Pinned := { name := "ythgodajjaddgbaa", sum := "d7f7dfa0de1ad654c901f362da5df0d099d95d766ffad34db278be4cf0699db6", checked := Try.checked }
namespace Rows
def none {H : Type} : Left H := { results := [], args := [] }

/-- 'stencillaw02.TextNames': WHATEVER THE INPUT: true; the input reads as it did. -/
def textNamesSpec : ChangeSpec := { name := "textNames", fn := fun _ => fun
  | [d1, d2, d3] => { results := [.lit (.bool true)], args := [d1, d2, d3] }
  | _ => none }
def textNamesRow : OpenClaim := { program := "ythgodajjaddgbaa", sum := "d7f7dfa0de1ad654c901f362da5df0d099d95d766ffad34db278be4cf0699db6", func := "stencil/stencillaw02.TextNames", spec := "textNames", apart := false }
def TextNamesSaid : Prop := textNamesRow.holds Try.pinned (OpenSpec.ofChange textNamesSpec)

/-- ITS FALSE NEIGHBOUR: 'it returns false'. Refute it at one input. -/
def textNamesWrong : ChangeSpec := { name := "textNames", fn := fun _ => fun
  | [d1, d2, d3] => { results := [.lit (.bool false)], args := [d1, d2, d3] }
  | _ => none }
def TextNamesWrongFalsely : Prop := textNamesRow.holds Try.pinned (OpenSpec.ofChange textNamesWrong)

/-- 'stencillaw02.TextPoints': WHATEVER THE INPUT: true; the input reads as it did. -/
def textPointsSpec : ChangeSpec := { name := "textPoints", fn := fun _ => fun
  | [d1, d2] => { results := [.lit (.bool true)], args := [d1, d2] }
  | _ => none }
def textPointsRow : OpenClaim := { program := "ythgodajjaddgbaa", sum := "d7f7dfa0de1ad654c901f362da5df0d099d95d766ffad34db278be4cf0699db6", func := "stencil/stencillaw02.TextPoints", spec := "textPoints", apart := false }
def TextPointsSaid : Prop := textPointsRow.holds Try.pinned (OpenSpec.ofChange textPointsSpec)

/-- ITS FALSE NEIGHBOUR: 'it returns false'. Refute it at one input. -/
def textPointsWrong : ChangeSpec := { name := "textPoints", fn := fun _ => fun
  | [d1, d2] => { results := [.lit (.bool false)], args := [d1, d2] }
  | _ => none }
def TextPointsWrongFalsely : Prop := textPointsRow.holds Try.pinned (OpenSpec.ofChange textPointsWrong)

/-- 'stencillaw02.TextNumbers': WHATEVER THE INPUT: true; the input reads as it did. -/
def textNumbersSpec : ChangeSpec := { name := "textNumbers", fn := fun _ => fun
  | [d1, d2, d3] => { results := [.lit (.bool true)], args := [d1, d2, d3] }
  | _ => none }
def textNumbersRow : OpenClaim := { program := "ythgodajjaddgbaa", sum := "d7f7dfa0de1ad654c901f362da5df0d099d95d766ffad34db278be4cf0699db6", func := "stencil/stencillaw02.TextNumbers", spec := "textNumbers", inPlace := ["internal/abi.NoEscape", "internal/bytealg.IndexByteString"], apart := false }
def TextNumbersSaid : Prop := textNumbersRow.holds Try.pinned (OpenSpec.ofChange textNumbersSpec)

/-- ITS FALSE NEIGHBOUR: 'it returns false'. Refute it at one input. -/
def textNumbersWrong : ChangeSpec := { name := "textNumbers", fn := fun _ => fun
  | [d1, d2, d3] => { results := [.lit (.bool false)], args := [d1, d2, d3] }
  | _ => none }
def TextNumbersWrongFalsely : Prop := textNumbersRow.holds Try.pinned (OpenSpec.ofChange textNumbersWrong)

/-- 'stencillaw02.TextQuoted': WHATEVER THE INPUT: true; the input reads as it did. -/
def textQuotedSpec : ChangeSpec := { name := "textQuoted", fn := fun _ => fun
  | [d1, d2, d3] => { results := [.lit (.bool true)], args := [d1, d2, d3] }
  | _ => none }
def textQuotedRow : OpenClaim := { program := "ythgodajjaddgbaa", sum := "d7f7dfa0de1ad654c901f362da5df0d099d95d766ffad34db278be4cf0699db6", func := "stencil/stencillaw02.TextQuoted", spec := "textQuoted", unfollowed := true, recurses := true, apart := false }
def TextQuotedSaid : Prop := textQuotedRow.holds Try.pinned (OpenSpec.ofChange textQuotedSpec)

/-- ITS FALSE NEIGHBOUR: 'it returns false'. Refute it at one input. -/
def textQuotedWrong : ChangeSpec := { name := "textQuoted", fn := fun _ => fun
  | [d1, d2, d3] => { results := [.lit (.bool false)], args := [d1, d2, d3] }
  | _ => none }
def TextQuotedWrongFalsely : Prop := textQuotedRow.holds Try.pinned (OpenSpec.ofChange textQuotedWrong)

/-- 'stencillaw02.TextThere': WHATEVER THE INPUT: true; the input reads as it did. -/
def textThereSpec : ChangeSpec := { name := "textThere", fn := fun _ => fun
  | [d] => { results := [.lit (.bool true)], args := [d] }
  | _ => none }
def textThereRow : OpenClaim := { program := "ythgodajjaddgbaa", sum := "d7f7dfa0de1ad654c901f362da5df0d099d95d766ffad34db278be4cf0699db6", func := "stencil/stencillaw02.TextThere", spec := "textThere", inPlace := ["internal/abi.NoEscape", "internal/bytealg.IndexByteString"], apart := false }
def TextThereSaid : Prop := textThereRow.holds Try.pinned (OpenSpec.ofChange textThereSpec)

/-- ITS FALSE NEIGHBOUR: 'it returns false'. Refute it at one input. -/
def textThereWrong : ChangeSpec := { name := "textThere", fn := fun _ => fun
  | [d] => { results := [.lit (.bool false)], args := [d] }
  | _ => none }
def TextThereWrongFalsely : Prop := textThereRow.holds Try.pinned (OpenSpec.ofChange textThereWrong)

/-- 'stencillaw02.TextAll': WHATEVER THE INPUT: true; the input reads as it did. -/
def textAllSpec : ChangeSpec := { name := "textAll", fn := fun _ => fun
  | [d] => { results := [.lit (.bool true)], args := [d] }
  | _ => none }
def textAllRow : OpenClaim := { program := "ythgodajjaddgbaa", sum := "d7f7dfa0de1ad654c901f362da5df0d099d95d766ffad34db278be4cf0699db6", func := "stencil/stencillaw02.TextAll", spec := "textAll", inPlace := ["internal/abi.NoEscape", "internal/bytealg.IndexByteString"], unfollowed := true, recurses := true, apart := false }
def TextAllSaid : Prop := textAllRow.holds Try.pinned (OpenSpec.ofChange textAllSpec)

/-- ITS FALSE NEIGHBOUR: 'it returns false'. Refute it at one input. -/
def textAllWrong : ChangeSpec := { name := "textAll", fn := fun _ => fun
  | [d] => { results := [.lit (.bool false)], args := [d] }
  | _ => none }
def TextAllWrongFalsely : Prop := textAllRow.holds Try.pinned (OpenSpec.ofChange textAllWrong)

/- THE SECOND FORM. 'bulk': how many values and letters a reading holds, each counted each time it is reached (what is shared counts as often as it is met; a slice's spare places count too). A statement '..UptoSaid' is the law's where the arguments, and the package variables that the reading takes, are together of bulk at most 1048576: NARROWER than '..Said'. Prove '..Said' where nothing that the law and all that it calls make is longer than what came in: it says more and counts as full. Else prove '..UptoSaid'. A law counts once. -/
mutual
def uptoBulk {H : Type} : DataW H → Nat
  | .lit (.string bytes) => bytes.length + 1
  | .lit _ => 1
  | .nil => 1
  | .ptr d => uptoBulk d + 1
  | .slice elems spare => uptoBulkAll elems + uptoBulkAll spare + 1
  | .agg parts => uptoBulkAll parts + 1
  | .iface _ d => uptoBulk d + 1
  | .map entries => uptoBulkEntries entries + 1
  | .held _ => 1
def uptoBulkAll {H : Type} : List (DataW H) → Nat
  | [] => 0
  | d :: r => uptoBulk d + uptoBulkAll r
def uptoBulkEntries {H : Type} : List (Lit × DataW H) → Nat
  | [] => 0
  | x :: r => uptoBulkEntry x + uptoBulkEntries r
def uptoBulkEntry {H : Type} : Lit × DataW H → Nat
  | (.string bytes, d) => bytes.length + uptoBulk d + 1
  | (_, d) => uptoBulk d + 1
 end
def uptoSmall : (H : Type) → List (DataW H) → Bool := fun _ ds => decide (uptoBulkAll ds ≤ 1048576)
def OpenSpec.upto (s : _root_.Go.ChangeSpec) : _root_.Go.OpenSpec := { _root_.Go.OpenSpec.ofChange s with cond := some uptoSmall }

/-- 'stencillaw02.TextNames', WHERE WHAT IT READS IS OF BULK AT MOST 1048576: true; the input reads as it did. -/
def textNamesUptoRow : OpenClaim := { program := "ythgodajjaddgbaa", sum := "d7f7dfa0de1ad654c901f362da5df0d099d95d766ffad34db278be4cf0699db6", func := "stencil/stencillaw02.TextNames", spec := "textNames", apart := false, narrowed := true }
def TextNamesUptoSaid : Prop := textNamesUptoRow.holds Try.pinned (OpenSpec.upto textNamesSpec)

/-- 'stencillaw02.TextPoints', WHERE WHAT IT READS IS OF BULK AT MOST 1048576: true; the input reads as it did. -/
def textPointsUptoRow : OpenClaim := { program := "ythgodajjaddgbaa", sum := "d7f7dfa0de1ad654c901f362da5df0d099d95d766ffad34db278be4cf0699db6", func := "stencil/stencillaw02.TextPoints", spec := "textPoints", apart := false, narrowed := true }
def TextPointsUptoSaid : Prop := textPointsUptoRow.holds Try.pinned (OpenSpec.upto textPointsSpec)

/-- 'stencillaw02.TextNumbers', WHERE WHAT IT READS IS OF BULK AT MOST 1048576: true; the input reads as it did. -/
def textNumbersUptoRow : OpenClaim := { program := "ythgodajjaddgbaa", sum := "d7f7dfa0de1ad654c901f362da5df0d099d95d766ffad34db278be4cf0699db6", func := "stencil/stencillaw02.TextNumbers", spec := "textNumbers", inPlace := ["internal/abi.NoEscape", "internal/bytealg.IndexByteString"], apart := false, narrowed := true }
def TextNumbersUptoSaid : Prop := textNumbersUptoRow.holds Try.pinned (OpenSpec.upto textNumbersSpec)

/-- 'stencillaw02.TextQuoted', WHERE WHAT IT READS IS OF BULK AT MOST 1048576: true; the input reads as it did. -/
def textQuotedUptoRow : OpenClaim := { program := "ythgodajjaddgbaa", sum := "d7f7dfa0de1ad654c901f362da5df0d099d95d766ffad34db278be4cf0699db6", func := "stencil/stencillaw02.TextQuoted", spec := "textQuoted", unfollowed := true, recurses := true, apart := false, narrowed := true }
def TextQuotedUptoSaid : Prop := textQuotedUptoRow.holds Try.pinned (OpenSpec.upto textQuotedSpec)

/-- 'stencillaw02.TextThere', WHERE WHAT IT READS IS OF BULK AT MOST 1048576: true; the input reads as it did. -/
def textThereUptoRow : OpenClaim := { program := "ythgodajjaddgbaa", sum := "d7f7dfa0de1ad654c901f362da5df0d099d95d766ffad34db278be4cf0699db6", func := "stencil/stencillaw02.TextThere", spec := "textThere", inPlace := ["internal/abi.NoEscape", "internal/bytealg.IndexByteString"], apart := false, narrowed := true }
def TextThereUptoSaid : Prop := textThereUptoRow.holds Try.pinned (OpenSpec.upto textThereSpec)

/-- 'stencillaw02.TextAll', WHERE WHAT IT READS IS OF BULK AT MOST 1048576: true; the input reads as it did. -/
def textAllUptoRow : OpenClaim := { program := "ythgodajjaddgbaa", sum := "d7f7dfa0de1ad654c901f362da5df0d099d95d766ffad34db278be4cf0699db6", func := "stencil/stencillaw02.TextAll", spec := "textAll", inPlace := ["internal/abi.NoEscape", "internal/bytealg.IndexByteString"], unfollowed := true, recurses := true, apart := false, narrowed := true }
def TextAllUptoSaid : Prop := textAllUptoRow.holds Try.pinned (OpenSpec.upto textAllSpec)

end Rows
end Go.Proofs.Ythgodajjaddgbaa
