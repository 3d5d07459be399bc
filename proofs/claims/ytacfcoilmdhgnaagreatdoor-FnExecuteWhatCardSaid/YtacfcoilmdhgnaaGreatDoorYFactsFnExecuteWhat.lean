/- What the law's row says of the program, asked of the program once. -/
import Derived.Test.YtacfcoilmdhgnaaGreatDoorRows
import Derived.Test.YtacfcoilmdhgnaaGreatDoorTie
import Derived.Test.YtacfcoilmdhgnaaGreatDoorCards
import Derived.ProofKit
import Derived.JoinedOf
import Derived.SevenTiedAt
import Derived.KernelRfl
set_option maxRecDepth 100000
set_option maxHeartbeats 80000000
namespace Go.Proofs.YtacfcoilmdhgnaaGreatDoor.fnExecuteWhat
theorem worded : Rows.fnExecuteWhatRow.wfByText (OpenSpec.ofChange Rows.fnExecuteWhatSpec) = true := by kernel_rfl
theorem mains : Tryz.pinned.checked.prog.mainIs = some (true, "0b8d937e8e5bfaad503ac8c8a77da6b62e58689681d8aafc8ad2ec9e3ed209f3".toList) := by kernel_rfl
theorem looks : false = Tryz.pinned.checked.prog.looks [] := by kernel_rfl
theorem goes : false = Rows.fnExecuteWhatRow.goesBy Tryz.pinned.checked.prog := by kernel_rfl
theorem closed : joinedFacts Tryz.pinned.checked.prog 5 Tryz.f5 Rows.fnExecuteWhatSpec Rows.fnExecuteWhatRow = true := by
 unfold joinedFacts
 simp only [Bool.and_eq_true]
 repeat' apply And.intro
 all_goals as_aux_lemma => kernel_rfl
end Go.Proofs.YtacfcoilmdhgnaaGreatDoor.fnExecuteWhat
