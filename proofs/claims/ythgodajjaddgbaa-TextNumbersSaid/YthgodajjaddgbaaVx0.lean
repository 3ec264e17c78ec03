-- Made by a wrapper of this project over the kit's print.py, with contracts by hand beside it. Not trusted: Lean checks it.
import Derived.Test.YthgodajjaddgbaaProg
import Derived.Below
import Derived.Deep.Draws
import Derived.Deep.AppendLies
import Derived.Maps.AppendAt
import Derived.OwnWalk
import Derived.Laws.BytesArg
import Derived.Laws.MakeOwn
import Derived.Laws.OwnMore
import Derived.Deep.OwnRows
import Derived.Tactics
import Derived.Lib.ConvBytes
import Derived.Laws.Slices
import Derived.WalkKit
import Derived.KernelRfl
import Derived.RowKit3
import Derived.Deep.LoopGhost
import Derived.Deep.QuietTactic
import Derived.BigQuiet
import Derived.WideLaws
import Derived.Deep.DeepCutAuto
import Derived.Deep.CutBlock
import Derived.Deep.RegionHeld3
import Derived.Laws.Rows
import Derived.Lib.AppendStr
import Derived.ArgAppend
import Derived.Laws.IdiomCopy
import Derived.OrdersHeld
import Derived.Laws.BitsLemmas
import Derived.RowKit
import Derived.Test.YthgodajjaddgbaaWWords
import Derived.Test.YthgodajjaddgbaaWLast
import Derived.Test.YthgodajjaddgbaaWTab
import Derived.Test.YthgodajjaddgbaaWFour
import Derived.Test.YthgodajjaddgbaaWQPut
import Derived.Test.YthgodajjaddgbaaWApart
import Derived.Test.YthgodajjaddgbaaWArr
import Derived.Test.YthgodajjaddgbaaWZeros
import Derived.Test.YthgodajjaddgbaaWFoot
import Derived.Test.YthgodajjaddgbaaWKept
import Derived.Test.YthgodajjaddgbaaWShare
import Derived.Test.YthgodajjaddgbaaWN
import Derived.Test.YthgodajjaddgbaaWFootNe
import Derived.Test.YthgodajjaddgbaaWAt
import Derived.Test.YthgodajjaddgbaaWEqStruct
import Derived.Test.YthgodajjaddgbaaWRepsOne
import Derived.Test.YthgodajjaddgbaaWInv
import Derived.Test.YthgodajjaddgbaaWInvWords
import Derived.Test.YthgodajjaddgbaaWGuard
import Derived.Test.YthgodajjaddgbaaWNEv
import Derived.Test.YthgodajjaddgbaaWMore
namespace Go.Proofs.Ythgodajjaddgbaa.V
open Go.RowKit Go.Proofs.YthgodajjaddgbaaW.PrintWords Go.Proofs.YthgodajjaddgbaaW.PrintLast Go.Proofs.YthgodajjaddgbaaW.PrintMore
attribute [local go_sem] max2_int min2_int max_two min_two max_three min_three max_four min_four   -- for this text's walks alone
set_option linter.unusedVariables false
set_option linter.unusedSimpArgs false



def errW : Option Int → Value
  | none => .nilIface
  | some c => .iface 0 (.int .i64 c)
theorem errW_none : errW none = .nilIface := rfl
theorem errW_some (c : Int) : errW (some c) = .iface 0 (.int .i64 c) := rfl

theorem info5 : (Try.prog.info? 5).map (fun i => (i.zero, i.size, i.bytes)) = some (some (.int .u8 0), 1, 1) := by kernel_rfl
-- the values' own types

end Go.Proofs.Ythgodajjaddgbaa.V
