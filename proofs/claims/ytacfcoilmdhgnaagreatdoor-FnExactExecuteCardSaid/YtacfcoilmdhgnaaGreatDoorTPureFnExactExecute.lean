/- What a script writes: the program's Execute returns what the reference's returns. -/
import Derived.Test.YtacfcoilmdhgnaaGreatDoorTQFnExactExecutea
import Derived.Test.YtacfcoilmdhgnaaGreatDoorTWSized
namespace Go.Proofs.YtacfcoilmdhgnaaGreatDoor.PrintWords
open Go.ChangeShapes Go.WideShapes
end Go.Proofs.YtacfcoilmdhgnaaGreatDoor.PrintWords
namespace Go.Proofs.YtacfcoilmdhgnaaGreatDoor.Pure
theorem FnExactExecute : Go.Proofs.YtacfcoilmdhgnaaGreatDoor.PFnExactExecute.laws_FnExactExecute.Pure := Go.Proofs.YtacfcoilmdhgnaaGreatDoor.QFnExactExecute.holds
end Go.Proofs.YtacfcoilmdhgnaaGreatDoor.Pure
