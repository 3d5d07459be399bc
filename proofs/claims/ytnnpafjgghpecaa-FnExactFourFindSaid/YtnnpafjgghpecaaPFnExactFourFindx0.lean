/- A function's Lean twin and its walk, written by a program of this session. -/
import Derived.Test.YtnnpafjgghpecaaProg
import Derived.Below
import Derived.Deep.Draws
import Derived.Deep.AppendLies
import Derived.Maps.AppendAt
import Derived.OwnWalk
import Derived.Laws.BytesArg
import Derived.Laws.MakeOwn
import Derived.Laws.OwnMore
import Derived.Deep.OwnRows
import Derived.Tactics
import Derived.Lib.ConvBytes
import Derived.Laws.Slices
import Derived.WalkKit
import Derived.KernelRfl
import Derived.RowKit3
import Derived.Deep.LoopGhost
import Derived.Deep.QuietTactic
import Derived.BigQuiet
import Derived.WideLaws
import Derived.Deep.DeepCutAuto
import Derived.Deep.CutBlock
import Derived.Deep.RegionHeld3
import Derived.Laws.Rows
import Derived.Lib.AppendStr
import Derived.ArgAppend
import Derived.Laws.IdiomCopy
import Derived.OrdersHeld
import Derived.Laws.BitsLemmas
import Derived.RowKit
import Derived.Test.YtnnpafjgghpecaaNum
import Derived.OneCell
import Derived.Lib.Hide
import Derived.Laws.EntriesVeiled
import Derived.Test.YtnnpafjgghpecaaWWords
import Derived.Test.YtnnpafjgghpecaaWLast
import Derived.Test.YtnnpafjgghpecaaWTab
import Derived.Test.YtnnpafjgghpecaaWFour
import Derived.Test.YtnnpafjgghpecaaWQPut
import Derived.Test.YtnnpafjgghpecaaWApart
import Derived.Test.YtnnpafjgghpecaaWArr
import Derived.Test.YtnnpafjgghpecaaWZeros
import Derived.Test.YtnnpafjgghpecaaWFoot
import Derived.Test.YtnnpafjgghpecaaWKept
import Derived.Test.YtnnpafjgghpecaaWShare
import Derived.Test.YtnnpafjgghpecaaWN
import Derived.Test.YtnnpafjgghpecaaWFootNe
import Derived.Test.YtnnpafjgghpecaaWAt
import Derived.Test.YtnnpafjgghpecaaWEqStruct
import Derived.Test.YtnnpafjgghpecaaWRepsOne
import Derived.Test.YtnnpafjgghpecaaWInv
import Derived.Test.YtnnpafjgghpecaaWInvWords
import Derived.Test.YtnnpafjgghpecaaWGuard
import Derived.Test.YtnnpafjgghpecaaWNEv
import Derived.Test.YtnnpafjgghpecaaWMore
namespace Go.Proofs.Ytnnpafjgghpecaa.PFnExactFourFind
open Go.RowKit Go.Proofs.YtnnpafjgghpecaaW.PrintWords Go.Proofs.YtnnpafjgghpecaaW.PrintLast Go.Proofs.YtnnpafjgghpecaaW.PrintMore
attribute [local go_sem] max2_int min2_int max_two min_two max_three min_three max_four min_four   -- for this text's walks alone
set_option linter.unusedVariables false
set_option linter.unusedSimpArgs false



def errW : Option Int → Value
  | none => .nilIface
  | some c => .iface 0 (.int .i64 c)
theorem errW_none : errW none = .nilIface := rfl
theorem errW_some (c : Int) : errW (some c) = .iface 0 (.int .i64 c) := rfl

theorem info3 : (Try.prog.info? 3).map (fun i => (i.zero, i.size, i.bytes)) = some (some (.int .i64 0), 1, 8) := by kernel_rfl
-- the values' own types

end Go.Proofs.Ytnnpafjgghpecaa.PFnExactFourFind
