/-
  NARROWER THAN 'FOR EVERY INPUT', by the rows' own cells (each row's printed sentence says how): PrimOrder: laid · PrimWords: laid · PrimBytes: laid · PrimBack: laid.
  DERIVED. THE GIVEN ROWS OF THIS SEAT. 4 by the template 'for every input the law returns true; each argument reads behind the call as it read before'; 0 by the template 'total and deterministic' (their statements: YtgackepigegbkaaDoorTotals.lean).
  GIVEN WITH THE SEED: the statements are not yours to turn. If you find one false, say at which input.
  Laid BY PROGRAM, IN A SANDBOX (cutbox-rows.mjs): the forced cells as the released guide's own fill.sh prints them over the translation b6cf623dafd68a3d… (all of the seat's roots in one cut). By AI agents, Wed Nov 11 2026. No macro, syntax, notation, axiom, sorry.
-/
import Derived.Test.YtgackepigegbkaaDoorChecked
import GoSem.Claim
import GoSem.ClaimJoined
import GoSem.ClaimMapViews
import Derived.JoinedTies
import Derived.KernelRfl
namespace Go.Proofs.YtgackepigegbkaaDoor
/- THE CELL 'sum', in the pinned program and in every row, IS THE sha256 OF THE DUMP (.gsa) THAT YtgackepigegbkaaDoorProg.lean LOADS. Nothing in Lean hashes anything: it is a label: what it is worth is what the hold of that sum in a sandbox is worth. -/
noncomputable def Tryd.pinned : Pinned := { name := "ytgackepigegbkaadoor", sum := "b6cf623dafd68a3dd5e33aaadaa16a56b270da1df96b98c0a11586854851dc95", checked := Tryd.checked }
namespace Rows
def none {H : Type} : Left H := { results := [], args := [] }

/- WHAT THE LISTED PACKAGE-LEVEL VARIABLES READ AS WHEN THE CALL BEGINS. Each datum BY PROGRAM (the guide's laid-datum.mjs) off the statement by which the dump's own 'gosem.cut.vars' lays the variable. In a bare row this is a premise. The card (YtgackepigegbkaaDoorCards.lean) ties it to the program's text. -/
def laid_stencil_prim_sizes {H : Type} : DataW H := .agg [.lit (.int .i64 1), .lit (.int .i64 1), .lit (.int .i64 2), .lit (.int .i64 4), .lit (.int .i64 8), .lit (.int .i64 1), .lit (.int .i64 2), .lit (.int .i64 4), .lit (.int .i64 8), .lit (.int .i64 4), .lit (.int .i64 8)]

/-- 'stencillaw01.PrimOrder': WHATEVER THE INPUT: true; the input reads as it did. -/
def primOrderSpec : ChangeSpec := { name := "primOrder", fn := fun _ => fun
  | [d1, d2, d3, d4] => { results := [.lit (.bool true)], args := [d1, d2, d3, d4] }
  | _ => none }
def primOrderRow : OpenClaim := { program := "ytgackepigegbkaadoor", sum := "b6cf623dafd68a3dd5e33aaadaa16a56b270da1df96b98c0a11586854851dc95", func := "stencil/stencillaw01.PrimOrder", spec := "primOrder", named := ["stencil/prim.sizes"], apart := false, laid := [("stencil/prim.sizes", laid_stencil_prim_sizes)] }
def PrimOrderSaid : Prop := primOrderRow.holds Tryd.pinned (OpenSpec.ofChange primOrderSpec)

/-- ITS FALSE NEIGHBOUR: 'it returns false'. Refute it at one input. -/
def primOrderWrong : ChangeSpec := { name := "primOrder", fn := fun _ => fun
  | [d1, d2, d3, d4] => { results := [.lit (.bool false)], args := [d1, d2, d3, d4] }
  | _ => none }
def PrimOrderWrongFalsely : Prop := primOrderRow.holds Tryd.pinned (OpenSpec.ofChange primOrderWrong)

/-- 'stencillaw01.PrimWords': WHATEVER THE INPUT: true; the input reads as it did. -/
def primWordsSpec : ChangeSpec := { name := "primWords", fn := fun _ => fun
  | [d1, d2, d3] => { results := [.lit (.bool true)], args := [d1, d2, d3] }
  | _ => none }
def primWordsRow : OpenClaim := { program := "ytgackepigegbkaadoor", sum := "b6cf623dafd68a3dd5e33aaadaa16a56b270da1df96b98c0a11586854851dc95", func := "stencil/stencillaw01.PrimWords", spec := "primWords", named := ["stencil/prim.sizes"], apart := false, laid := [("stencil/prim.sizes", laid_stencil_prim_sizes)] }
def PrimWordsSaid : Prop := primWordsRow.holds Tryd.pinned (OpenSpec.ofChange primWordsSpec)

/-- ITS FALSE NEIGHBOUR: 'it returns false'. Refute it at one input. -/
def primWordsWrong : ChangeSpec := { name := "primWords", fn := fun _ => fun
  | [d1, d2, d3] => { results := [.lit (.bool false)], args := [d1, d2, d3] }
  | _ => none }
def PrimWordsWrongFalsely : Prop := primWordsRow.holds Tryd.pinned (OpenSpec.ofChange primWordsWrong)

/-- 'stencillaw01.PrimBytes': WHATEVER THE INPUT: true; the input reads as it did. -/
def primBytesSpec : ChangeSpec := { name := "primBytes", fn := fun _ => fun
  | [d] => { results := [.lit (.bool true)], args := [d] }
  | _ => none }
def primBytesRow : OpenClaim := { program := "ytgackepigegbkaadoor", sum := "b6cf623dafd68a3dd5e33aaadaa16a56b270da1df96b98c0a11586854851dc95", func := "stencil/stencillaw01.PrimBytes", spec := "primBytes", unfollowed := true, recurses := true, named := ["stencil/prim.sizes"], apart := false, laid := [("stencil/prim.sizes", laid_stencil_prim_sizes)] }
def PrimBytesSaid : Prop := primBytesRow.holds Tryd.pinned (OpenSpec.ofChange primBytesSpec)

/-- ITS FALSE NEIGHBOUR: 'it returns false'. Refute it at one input. -/
def primBytesWrong : ChangeSpec := { name := "primBytes", fn := fun _ => fun
  | [d] => { results := [.lit (.bool false)], args := [d] }
  | _ => none }
def PrimBytesWrongFalsely : Prop := primBytesRow.holds Tryd.pinned (OpenSpec.ofChange primBytesWrong)

/-- 'stencillaw01.PrimBack': WHATEVER THE INPUT: true; the input reads as it did. -/
def primBackSpec : ChangeSpec := { name := "primBack", fn := fun _ => fun
  | [d1, d2, d3, d4] => { results := [.lit (.bool true)], args := [d1, d2, d3, d4] }
  | _ => none }
def primBackRow : OpenClaim := { program := "ytgackepigegbkaadoor", sum := "b6cf623dafd68a3dd5e33aaadaa16a56b270da1df96b98c0a11586854851dc95", func := "stencil/stencillaw01.PrimBack", spec := "primBack", unfollowed := true, recurses := true, named := ["stencil/prim.sizes"], apart := false, laid := [("stencil/prim.sizes", laid_stencil_prim_sizes)] }
def PrimBackSaid : Prop := primBackRow.holds Tryd.pinned (OpenSpec.ofChange primBackSpec)

/-- ITS FALSE NEIGHBOUR: 'it returns false'. Refute it at one input. -/
def primBackWrong : ChangeSpec := { name := "primBack", fn := fun _ => fun
  | [d1, d2, d3, d4] => { results := [.lit (.bool false)], args := [d1, d2, d3, d4] }
  | _ => none }
def PrimBackWrongFalsely : Prop := primBackRow.holds Tryd.pinned (OpenSpec.ofChange primBackWrong)

/- THE SECOND FORM. 'bulk': how many values and letters a reading holds, each counted each time it is reached (what is shared counts as often as it is met; a slice's spare places count too). A statement '..UptoSaid' is the law's where the arguments, and the package variables that the reading takes, are together of bulk at most 1048576: NARROWER than '..Said'. Prove '..Said' where nothing that the law and all that it calls make is longer than what came in: it says more and counts as full. Else prove '..UptoSaid'. A law counts once. -/
mutual
def uptoBulk {H : Type} : DataW H → Nat
  | .lit (.string bytes) => bytes.length + 1
  | .lit _ => 1
  | .nil => 1
  | .ptr d => uptoBulk d + 1
  | .slice elems spare => uptoBulkAll elems + uptoBulkAll spare + 1
  | .agg parts => uptoBulkAll parts + 1
  | .iface _ d => uptoBulk d + 1
  | .map entries => uptoBulkEntries entries + 1
  | .held _ => 1
def uptoBulkAll {H : Type} : List (DataW H) → Nat
  | [] => 0
  | d :: r => uptoBulk d + uptoBulkAll r
def uptoBulkEntries {H : Type} : List (Lit × DataW H) → Nat
  | [] => 0
  | x :: r => uptoBulkEntry x + uptoBulkEntries r
def uptoBulkEntry {H : Type} : Lit × DataW H → Nat
  | (.string bytes, d) => bytes.length + uptoBulk d + 1
  | (_, d) => uptoBulk d + 1
 end
def uptoSmall : (H : Type) → List (DataW H) → Bool := fun _ ds => decide (uptoBulkAll ds ≤ 1048576)
def OpenSpec.upto (s : _root_.Go.ChangeSpec) : _root_.Go.OpenSpec := { _root_.Go.OpenSpec.ofChange s with cond := some uptoSmall }

/-- 'stencillaw01.PrimOrder', WHERE WHAT IT READS IS OF BULK AT MOST 1048576: true; the input reads as it did. -/
def primOrderUptoRow : OpenClaim := { program := "ytgackepigegbkaadoor", sum := "b6cf623dafd68a3dd5e33aaadaa16a56b270da1df96b98c0a11586854851dc95", func := "stencil/stencillaw01.PrimOrder", spec := "primOrder", named := ["stencil/prim.sizes"], apart := false, laid := [("stencil/prim.sizes", laid_stencil_prim_sizes)], narrowed := true }
def PrimOrderUptoSaid : Prop := primOrderUptoRow.holds Tryd.pinned (OpenSpec.upto primOrderSpec)

/-- 'stencillaw01.PrimWords', WHERE WHAT IT READS IS OF BULK AT MOST 1048576: true; the input reads as it did. -/
def primWordsUptoRow : OpenClaim := { program := "ytgackepigegbkaadoor", sum := "b6cf623dafd68a3dd5e33aaadaa16a56b270da1df96b98c0a11586854851dc95", func := "stencil/stencillaw01.PrimWords", spec := "primWords", named := ["stencil/prim.sizes"], apart := false, laid := [("stencil/prim.sizes", laid_stencil_prim_sizes)], narrowed := true }
def PrimWordsUptoSaid : Prop := primWordsUptoRow.holds Tryd.pinned (OpenSpec.upto primWordsSpec)

/-- 'stencillaw01.PrimBytes', WHERE WHAT IT READS IS OF BULK AT MOST 1048576: true; the input reads as it did. -/
def primBytesUptoRow : OpenClaim := { program := "ytgackepigegbkaadoor", sum := "b6cf623dafd68a3dd5e33aaadaa16a56b270da1df96b98c0a11586854851dc95", func := "stencil/stencillaw01.PrimBytes", spec := "primBytes", unfollowed := true, recurses := true, named := ["stencil/prim.sizes"], apart := false, laid := [("stencil/prim.sizes", laid_stencil_prim_sizes)], narrowed := true }
def PrimBytesUptoSaid : Prop := primBytesUptoRow.holds Tryd.pinned (OpenSpec.upto primBytesSpec)

/-- 'stencillaw01.PrimBack', WHERE WHAT IT READS IS OF BULK AT MOST 1048576: true; the input reads as it did. -/
def primBackUptoRow : OpenClaim := { program := "ytgackepigegbkaadoor", sum := "b6cf623dafd68a3dd5e33aaadaa16a56b270da1df96b98c0a11586854851dc95", func := "stencil/stencillaw01.PrimBack", spec := "primBack", unfollowed := true, recurses := true, named := ["stencil/prim.sizes"], apart := false, laid := [("stencil/prim.sizes", laid_stencil_prim_sizes)], narrowed := true }
def PrimBackUptoSaid : Prop := primBackUptoRow.holds Tryd.pinned (OpenSpec.upto primBackSpec)

end Rows
end Go.Proofs.YtgackepigegbkaaDoor
