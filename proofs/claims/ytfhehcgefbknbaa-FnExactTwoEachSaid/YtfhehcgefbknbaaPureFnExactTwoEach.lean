/- TwoEach of the program answers what the reference's answers, for each integer. No condition. -/
import Derived.Test.YtfhehcgefbknbaaQFnExactTwoEacha
namespace Go.Proofs.Ytfhehcgefbknbaa.Pure
theorem FnExactTwoEach : Go.Proofs.Ytfhehcgefbknbaa.PFnExactTwoEach.laws_FnExactTwoEach.Pure := Go.Proofs.Ytfhehcgefbknbaa.QFnExactTwoEach.holds
end Go.Proofs.Ytfhehcgefbknbaa.Pure
