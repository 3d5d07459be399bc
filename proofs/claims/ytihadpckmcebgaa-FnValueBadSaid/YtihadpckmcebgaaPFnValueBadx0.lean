/- A function's Lean twin and its walk, written by a program of this session. -/
import Derived.Test.YtihadpckmcebgaaProg
import Derived.Below
import Derived.Lib.SliceRun
import Derived.Deep.Draws
import Derived.Deep.AppendLies
import Derived.Maps.AppendAt
import Derived.OwnWalk
import Derived.Laws.BytesArg
import Derived.Laws.MakeOwn
import Derived.Laws.OwnMore
import Derived.Deep.OwnRows
import Derived.Tactics
import Derived.Lib.ConvBytes
import Derived.Laws.Slices
import Derived.WalkKit
import Derived.KernelRfl
import Derived.RowKit3
import Derived.Deep.LoopGhost
import Derived.Deep.QuietTactic
import Derived.BigQuiet
import Derived.WideLaws
import Derived.Deep.DeepCutAuto
import Derived.Deep.CutBlock
import Derived.Deep.RegionHeld3
import Derived.Laws.Rows
import Derived.Lib.AppendStr
import Derived.ArgAppend
import Derived.Laws.IdiomCopy
import Derived.OrdersHeld
import Derived.Laws.BitsLemmas
import Derived.RowKit
import Derived.Test.YtihadpckmcebgaaNum
import Derived.OneCell
import Derived.Lib.Hide
import Derived.Laws.EntriesVeiled
import Derived.Sort.OwnSortedInts
import Derived.Test.YtihadpckmcebgaaSrt
import Derived.Test.YtihadpckmcebgaaSqz
import Derived.Test.YtihadpckmcebgaaWWords
import Derived.Test.YtihadpckmcebgaaWLast
import Derived.Test.YtihadpckmcebgaaWTab
import Derived.Test.YtihadpckmcebgaaWFour
import Derived.Test.YtihadpckmcebgaaWQPut
import Derived.Test.YtihadpckmcebgaaWApart
import Derived.Test.YtihadpckmcebgaaWArr
import Derived.Test.YtihadpckmcebgaaWZeros
import Derived.Test.YtihadpckmcebgaaWFoot
import Derived.Test.YtihadpckmcebgaaWKept
import Derived.Test.YtihadpckmcebgaaWShare
import Derived.Test.YtihadpckmcebgaaWN
import Derived.Test.YtihadpckmcebgaaWFootNe
import Derived.Test.YtihadpckmcebgaaWAt
import Derived.Test.YtihadpckmcebgaaWEqStruct
import Derived.Test.YtihadpckmcebgaaWRepsOne
import Derived.Test.YtihadpckmcebgaaWInv
import Derived.Test.YtihadpckmcebgaaWInvWords
import Derived.Test.YtihadpckmcebgaaWGuard
import Derived.Test.YtihadpckmcebgaaWNEv
import Derived.Test.YtihadpckmcebgaaWMore
namespace Go.Proofs.Ytihadpckmcebgaa.PFnValueBad
open Go.RowKit Go.Proofs.YtihadpckmcebgaaW.PrintWords Go.Proofs.YtihadpckmcebgaaW.PrintLast Go.Proofs.YtihadpckmcebgaaW.PrintMore
attribute [local go_sem] max2_int min2_int max_two min_two max_three min_three max_four min_four   -- for this text's walks alone
set_option linter.unusedVariables false
set_option linter.unusedSimpArgs false



def errW : Option Int → Value
  | none => .nilIface
  | some c => .iface 0 (.int .i64 c)
theorem errW_none : errW none = .nilIface := rfl
theorem errW_some (c : Int) : errW (some c) = .iface 0 (.int .i64 c) := rfl

theorem info3 : (Try.prog.info? 3).map (fun i => (i.zero, i.size, i.bytes)) = some (some (.int .i64 0), 1, 8) := by kernel_rfl
theorem info5 : (Try.prog.info? 5).map (fun i => (i.zero, i.size, i.bytes)) = some (some (.int .u8 0), 1, 1) := by kernel_rfl
-- the values' own types

end Go.Proofs.Ytihadpckmcebgaa.PFnValueBad
