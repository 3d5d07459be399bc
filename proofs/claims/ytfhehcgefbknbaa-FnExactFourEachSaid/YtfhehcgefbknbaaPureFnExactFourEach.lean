/- FourEach of the program answers what the reference's answers, for each integer. No condition. -/
import Derived.Test.YtfhehcgefbknbaaQFnExactFourEacha
namespace Go.Proofs.Ytfhehcgefbknbaa.Pure
theorem FnExactFourEach : Go.Proofs.Ytfhehcgefbknbaa.PFnExactFourEach.laws_FnExactFourEach.Pure := Go.Proofs.Ytfhehcgefbknbaa.QFnExactFourEach.holds
end Go.Proofs.Ytfhehcgefbknbaa.Pure
