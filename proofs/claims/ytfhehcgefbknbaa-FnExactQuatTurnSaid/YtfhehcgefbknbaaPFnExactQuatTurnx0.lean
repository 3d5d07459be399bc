/- A function's Lean twin and its walk, written by a program of this session. -/
import Derived.Test.YtfhehcgefbknbaaProg
import Derived.Below
import Derived.Lib.SliceRun
import Derived.Deep.Draws
import Derived.Deep.AppendLies
import Derived.Maps.AppendAt
import Derived.OwnWalk
import Derived.Laws.BytesArg
import Derived.Laws.MakeOwn
import Derived.Laws.OwnMore
import Derived.Deep.OwnRows
import Derived.Tactics
import Derived.Lib.ConvBytes
import Derived.Laws.Slices
import Derived.WalkKit
import Derived.KernelRfl
import Derived.RowKit3
import Derived.Deep.LoopGhost
import Derived.Deep.QuietTactic
import Derived.BigQuiet
import Derived.WideLaws
import Derived.Deep.DeepCutAuto
import Derived.Deep.CutBlock
import Derived.Deep.RegionHeld3
import Derived.Laws.Rows
import Derived.Lib.AppendStr
import Derived.ArgAppend
import Derived.Laws.IdiomCopy
import Derived.OrdersHeld
import Derived.Laws.BitsLemmas
import Derived.RowKit
import Derived.Test.YtfhehcgefbknbaaNum
import Derived.OneCell
import Derived.Lib.Hide
import Derived.Laws.EntriesVeiled
import Derived.Test.YtfhehcgefbknbaaWWords
import Derived.Test.YtfhehcgefbknbaaWLast
import Derived.Test.YtfhehcgefbknbaaWTab
import Derived.Test.YtfhehcgefbknbaaWFour
import Derived.Test.YtfhehcgefbknbaaWQPut
import Derived.Test.YtfhehcgefbknbaaWApart
import Derived.Test.YtfhehcgefbknbaaWArr
import Derived.Test.YtfhehcgefbknbaaWZeros
import Derived.Test.YtfhehcgefbknbaaWFoot
import Derived.Test.YtfhehcgefbknbaaWKept
import Derived.Test.YtfhehcgefbknbaaWShare
import Derived.Test.YtfhehcgefbknbaaWN
import Derived.Test.YtfhehcgefbknbaaWFootNe
import Derived.Test.YtfhehcgefbknbaaWAt
import Derived.Test.YtfhehcgefbknbaaWEqStruct
import Derived.Test.YtfhehcgefbknbaaWRepsOne
import Derived.Test.YtfhehcgefbknbaaWInv
import Derived.Test.YtfhehcgefbknbaaWInvWords
import Derived.Test.YtfhehcgefbknbaaWGuard
import Derived.Test.YtfhehcgefbknbaaWNEv
import Derived.Test.YtfhehcgefbknbaaWMore
namespace Go.Proofs.Ytfhehcgefbknbaa.PFnExactQuatTurn
open Go.RowKit Go.Proofs.YtfhehcgefbknbaaW.PrintWords Go.Proofs.YtfhehcgefbknbaaW.PrintLast Go.Proofs.YtfhehcgefbknbaaW.PrintMore
attribute [local go_sem] max2_int min2_int max_two min_two max_three min_three max_four min_four   -- for this text's walks alone
set_option linter.unusedVariables false
set_option linter.unusedSimpArgs false



def errW : Option Int → Value
  | none => .nilIface
  | some c => .iface 0 (.int .i64 c)
theorem errW_none : errW none = .nilIface := rfl
theorem errW_some (c : Int) : errW (some c) = .iface 0 (.int .i64 c) := rfl

theorem info3 : (Try.prog.info? 3).map (fun i => (i.zero, i.size, i.bytes)) = some (some (.int .i64 0), 1, 8) := by kernel_rfl
-- the values' own types

end Go.Proofs.Ytfhehcgefbknbaa.PFnExactQuatTurn
