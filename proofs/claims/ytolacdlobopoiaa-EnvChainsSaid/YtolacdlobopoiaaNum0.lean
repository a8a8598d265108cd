/- Of the functions that the laws of num and loc reach: for each a Lean function, and that the Go code comes to its answers. Begun as a text of the kit's print tool. Conditions: each theorem's own. -/
import Derived.Test.YtolacdlobopoiaaProg
import Derived.Below
import Derived.Deep.Draws
import Derived.Deep.AppendLies
import Derived.Maps.AppendAt
import Derived.OwnWalk
import Derived.Laws.BytesArg
import Derived.Laws.MakeOwn
import Derived.Laws.OwnMore
import Derived.Deep.OwnRows
import Derived.Tactics
import Derived.Lib.ConvBytes
import Derived.Laws.Slices
import Derived.WalkKit
import Derived.KernelRfl
import Derived.RowKit3
import Derived.Deep.LoopGhost
import Derived.Deep.QuietTactic
import Derived.BigQuiet
import Derived.WideLaws
import Derived.Deep.DeepCutAuto
import Derived.Deep.CutBlock
import Derived.Deep.RegionHeld3
import Derived.Laws.Rows
import Derived.Lib.AppendStr
import Derived.ArgAppend
import Derived.Laws.IdiomCopy
import Derived.OrdersHeld
import Derived.Laws.BitsLemmas
import Derived.RowKit
import Derived.Test.YtolacdlobopoiaaWWords
import Derived.Test.YtolacdlobopoiaaWLast
import Derived.Test.YtolacdlobopoiaaWTab
import Derived.Test.YtolacdlobopoiaaWFour
import Derived.Test.YtolacdlobopoiaaWQPut
import Derived.Test.YtolacdlobopoiaaWApart
import Derived.Test.YtolacdlobopoiaaWArr
import Derived.Test.YtolacdlobopoiaaWZeros
import Derived.Test.YtolacdlobopoiaaWFoot
import Derived.Test.YtolacdlobopoiaaWKept
import Derived.Test.YtolacdlobopoiaaWShare
import Derived.Test.YtolacdlobopoiaaWN
import Derived.Test.YtolacdlobopoiaaWFootNe
import Derived.Test.YtolacdlobopoiaaWAt
import Derived.Test.YtolacdlobopoiaaWEqStruct
import Derived.Test.YtolacdlobopoiaaWRepsOne
import Derived.Test.YtolacdlobopoiaaWInv
import Derived.Test.YtolacdlobopoiaaWInvWords
import Derived.Test.YtolacdlobopoiaaWGuard
import Derived.Test.YtolacdlobopoiaaWNEv
import Derived.Test.YtolacdlobopoiaaWMore
namespace Go.Proofs.Ytolacdlobopoiaa.Num
open Go.RowKit Go.Proofs.YtolacdlobopoiaaW.PrintWords Go.Proofs.YtolacdlobopoiaaW.PrintLast Go.Proofs.YtolacdlobopoiaaW.PrintMore
attribute [local go_sem] max2_int min2_int max_two min_two max_three min_three max_four min_four   -- for this text's walks alone
set_option linter.unusedVariables false
set_option linter.unusedSimpArgs false



def errW : Option Int → Value
  | none => .nilIface
  | some c => .iface 0 (.int .i64 c)
theorem errW_none : errW none = .nilIface := rfl
theorem errW_some (c : Int) : errW (some c) = .iface 0 (.int .i64 c) := rfl

theorem info2 : (Try.prog.info? 2).map (fun i => (i.zero, i.size, i.bytes)) = some (some (.int .i64 0), 1, 8) := by kernel_rfl
theorem info5 : (Try.prog.info? 5).map (fun i => (i.zero, i.size, i.bytes)) = some (some (.int .u8 0), 1, 1) := by kernel_rfl
-- the values' own types

end Go.Proofs.Ytolacdlobopoiaa.Num
