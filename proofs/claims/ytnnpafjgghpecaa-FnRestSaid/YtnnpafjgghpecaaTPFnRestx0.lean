/- A function's Lean twin and its walk, written by a program of this session. -/
import Derived.Test.YtnnpafjgghpecaaProg
import Derived.Below
import Derived.Lib.SliceRun
import Derived.Deep.Draws
import Derived.Deep.AppendLies
import Derived.Maps.AppendAt
import Derived.OwnWalk
import Derived.Laws.BytesArg
import Derived.Laws.MakeOwn
import Derived.Laws.OwnMore
import Derived.Deep.OwnRows
import Derived.Tactics
import Derived.Lib.ConvBytes
import Derived.Laws.Slices
import Derived.WalkKit
import Derived.KernelRfl
import Derived.RowKit3
import Derived.Deep.LoopGhost
import Derived.Deep.QuietTactic
import Derived.BigQuiet
import Derived.WideLaws
import Derived.Deep.DeepCutAuto
import Derived.Deep.CutBlock
import Derived.Deep.RegionHeld3
import Derived.Laws.Rows
import Derived.Lib.AppendStr
import Derived.ArgAppend
import Derived.Laws.IdiomCopy
import Derived.OrdersHeld
import Derived.Laws.BitsLemmas
import Derived.RowKit
import Derived.Test.YtnnpafjgghpecaaTPlain
import Derived.OneCell
import Derived.Lib.Hide
import Derived.Laws.EntriesVeiled
import Derived.Sort.OwnSortedInts
import Derived.Test.YtnnpafjgghpecaaTSrt
import Derived.Test.YtnnpafjgghpecaaTSqz
import Derived.Test.YtnnpafjgghpecaaTWWords
import Derived.Test.YtnnpafjgghpecaaTWLast
import Derived.Test.YtnnpafjgghpecaaTWTab
import Derived.Test.YtnnpafjgghpecaaTWFour
import Derived.Test.YtnnpafjgghpecaaTWQPut
import Derived.Test.YtnnpafjgghpecaaTWApart
import Derived.Test.YtnnpafjgghpecaaTWArr
import Derived.Test.YtnnpafjgghpecaaTWZeros
import Derived.Test.YtnnpafjgghpecaaTWFoot
import Derived.Test.YtnnpafjgghpecaaTWKept
import Derived.Test.YtnnpafjgghpecaaTWShare
import Derived.Test.YtnnpafjgghpecaaTWN
import Derived.Test.YtnnpafjgghpecaaTWFootNe
import Derived.Test.YtnnpafjgghpecaaTWAt
import Derived.Test.YtnnpafjgghpecaaTWEqStruct
import Derived.Test.YtnnpafjgghpecaaTWRepsOne
import Derived.Test.YtnnpafjgghpecaaTWInv
import Derived.Test.YtnnpafjgghpecaaTWInvWords
import Derived.Test.YtnnpafjgghpecaaTWGuard
import Derived.Test.YtnnpafjgghpecaaTWNEv
import Derived.Test.YtnnpafjgghpecaaTWMore
namespace Go.Proofs.Ytnnpafjgghpecaa.PFnRest
open Go.RowKit Go.Proofs.YtnnpafjgghpecaaW.PrintWords Go.Proofs.YtnnpafjgghpecaaW.PrintLast Go.Proofs.YtnnpafjgghpecaaW.PrintMore
attribute [local go_sem] max2_int min2_int max_two min_two max_three min_three max_four min_four   -- for this text's walks alone
set_option linter.unusedVariables false
set_option linter.unusedSimpArgs false



def errW : Option Int → Value
 | none => .nilIface
 | some c => .iface 0 (.int .i64 c)
theorem errW_none : errW none = .nilIface := rfl
theorem errW_some (c : Int) : errW (some c) = .iface 0 (.int .i64 c) := rfl

theorem info3 : (Try.prog.info? 3).map (fun i => (i.zero, i.size, i.bytes)) = some (some (.int .i64 0), 1, 8) := by kernel_rfl
theorem info5 : (Try.prog.info? 5).map (fun i => (i.zero, i.size, i.bytes)) = some (some (.int .u8 0), 1, 1) := by kernel_rfl
-- the values' own types

end Go.Proofs.Ytnnpafjgghpecaa.PFnRest
