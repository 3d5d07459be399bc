/- A function's Lean twin and its walk, written by a program of this session. -/
import Derived.Test.YtihadpckmcebgaaProg
import Derived.Below
import Derived.Lib.SliceRun
import Derived.Deep.Draws
import Derived.Deep.AppendLies
import Derived.Maps.AppendAt
import Derived.OwnWalk
import Derived.Laws.BytesArg
import Derived.Laws.MakeOwn
import Derived.Laws.OwnMore
import Derived.Deep.OwnRows
import Derived.Tactics
import Derived.Lib.ConvBytes
import Derived.Laws.Slices
import Derived.WalkKit
import Derived.KernelRfl
import Derived.RowKit3
import Derived.Deep.LoopGhost
import Derived.Deep.QuietTactic
import Derived.BigQuiet
import Derived.WideLaws
import Derived.Deep.DeepCutAuto
import Derived.Deep.CutBlock
import Derived.Deep.RegionHeld3
import Derived.Laws.Rows
import Derived.Lib.AppendStr
import Derived.ArgAppend
import Derived.Laws.IdiomCopy
import Derived.OrdersHeld
import Derived.Laws.BitsLemmas
import Derived.RowKit
import Derived.Test.YtihadpckmcebgaaTPlain
import Derived.OneCell
import Derived.Lib.Hide
import Derived.Laws.EntriesVeiled
import Derived.Sort.OwnSortedInts
import Derived.Test.YtihadpckmcebgaaTSrt
import Derived.Test.YtihadpckmcebgaaTVcn
import Derived.Test.YtihadpckmcebgaaTSqz
import Derived.Test.YtihadpckmcebgaaTWWords
import Derived.Test.YtihadpckmcebgaaTWLast
import Derived.Test.YtihadpckmcebgaaTWTab
import Derived.Test.YtihadpckmcebgaaTWFour
import Derived.Test.YtihadpckmcebgaaTWQPut
import Derived.Test.YtihadpckmcebgaaTWApart
import Derived.Test.YtihadpckmcebgaaTWArr
import Derived.Test.YtihadpckmcebgaaTWZeros
import Derived.Test.YtihadpckmcebgaaTWFoot
import Derived.Test.YtihadpckmcebgaaTWKept
import Derived.Test.YtihadpckmcebgaaTWShare
import Derived.Test.YtihadpckmcebgaaTWN
import Derived.Test.YtihadpckmcebgaaTWFootNe
import Derived.Test.YtihadpckmcebgaaTWAt
import Derived.Test.YtihadpckmcebgaaTWEqStruct
import Derived.Test.YtihadpckmcebgaaTWRepsOne
import Derived.Test.YtihadpckmcebgaaTWInv
import Derived.Test.YtihadpckmcebgaaTWInvWords
import Derived.Test.YtihadpckmcebgaaTWGuard
import Derived.Test.YtihadpckmcebgaaTWNEv
import Derived.Test.YtihadpckmcebgaaTWMore
namespace Go.Proofs.Ytihadpckmcebgaa.PFnValueMany
open Go.RowKit Go.Proofs.YtihadpckmcebgaaW.PrintWords Go.Proofs.YtihadpckmcebgaaW.PrintLast Go.Proofs.YtihadpckmcebgaaW.PrintMore
attribute [local go_sem] max2_int min2_int max_two min_two max_three min_three max_four min_four   -- for this text's walks alone
set_option linter.unusedVariables false
set_option linter.unusedSimpArgs false



def errW : Option Int → Value
 | none => .nilIface
 | some c => .iface 0 (.int .i64 c)
theorem errW_none : errW none = .nilIface := rfl
theorem errW_some (c : Int) : errW (some c) = .iface 0 (.int .i64 c) := rfl

theorem info3 : (Try.prog.info? 3).map (fun i => (i.zero, i.size, i.bytes)) = some (some (.int .i64 0), 1, 8) := by kernel_rfl
theorem info5 : (Try.prog.info? 5).map (fun i => (i.zero, i.size, i.bytes)) = some (some (.int .u8 0), 1, 1) := by kernel_rfl
-- the values' own types

end Go.Proofs.Ytihadpckmcebgaa.PFnValueMany
