/- Of the functions that the heap's laws reach: for each a Lean function, and that the Go code comes to its answers. Begun as a text of the kit's print tool over a stand-in body of heap.Store; Store's own section is typed for the true body. Conditions: each theorem's own. -/
import Derived.Test.YtnjnfihhhoppmaaProg
import Derived.Below
import Derived.Deep.Draws
import Derived.Deep.AppendLies
import Derived.Maps.AppendAt
import Derived.OwnWalk
import Derived.Laws.BytesArg
import Derived.Laws.MakeOwn
import Derived.Laws.OwnMore
import Derived.Deep.OwnRows
import Derived.Tactics
import Derived.Lib.ConvBytes
import Derived.Laws.Slices
import Derived.WalkKit
import Derived.KernelRfl
import Derived.RowKit3
import Derived.Deep.LoopGhost
import Derived.Deep.QuietTactic
import Derived.BigQuiet
import Derived.WideLaws
import Derived.Deep.DeepCutAuto
import Derived.Deep.CutBlock
import Derived.Deep.RegionHeld3
import Derived.Laws.Rows
import Derived.Lib.AppendStr
import Derived.ArgAppend
import Derived.Laws.IdiomCopy
import Derived.OrdersHeld
import Derived.Laws.BitsLemmas
import Derived.RowKit
import Derived.Test.YtnjnfihhhoppmaaWWords
import Derived.Test.YtnjnfihhhoppmaaWLast
import Derived.Test.YtnjnfihhhoppmaaWTab
import Derived.Test.YtnjnfihhhoppmaaWFour
import Derived.Test.YtnjnfihhhoppmaaWQPut
import Derived.Test.YtnjnfihhhoppmaaWApart
import Derived.Test.YtnjnfihhhoppmaaWArr
import Derived.Test.YtnjnfihhhoppmaaWZeros
import Derived.Test.YtnjnfihhhoppmaaWFoot
import Derived.Test.YtnjnfihhhoppmaaWKept
import Derived.Test.YtnjnfihhhoppmaaWShare
import Derived.Test.YtnjnfihhhoppmaaWN
import Derived.Test.YtnjnfihhhoppmaaWFootNe
import Derived.Test.YtnjnfihhhoppmaaWAt
import Derived.Test.YtnjnfihhhoppmaaWEqStruct
import Derived.Test.YtnjnfihhhoppmaaWRepsOne
import Derived.Test.YtnjnfihhhoppmaaWInv
import Derived.Test.YtnjnfihhhoppmaaWInvWords
import Derived.Test.YtnjnfihhhoppmaaWGuard
import Derived.Test.YtnjnfihhhoppmaaWNEv
import Derived.Test.YtnjnfihhhoppmaaWMore
namespace Go.Proofs.Ytnjnfihhhoppmaa.Heap
open Go.RowKit Go.Proofs.YtnjnfihhhoppmaaW.PrintWords Go.Proofs.YtnjnfihhhoppmaaW.PrintLast Go.Proofs.YtnjnfihhhoppmaaW.PrintMore
attribute [local go_sem] max2_int min2_int max_two min_two max_three min_three max_four min_four   -- for this text's walks alone
set_option linter.unusedVariables false
set_option linter.unusedSimpArgs false



def errW : Option Int → Value
  | none => .nilIface
  | some c => .iface 0 (.int .i64 c)
theorem errW_none : errW none = .nilIface := rfl
theorem errW_some (c : Int) : errW (some c) = .iface 0 (.int .i64 c) := rfl

theorem info2 : (Try.prog.info? 2).map (fun i => (i.zero, i.size, i.bytes)) = some (some (.int .i64 0), 1, 8) := by kernel_rfl
-- the values' own types

end Go.Proofs.Ytnjnfihhhoppmaa.Heap
