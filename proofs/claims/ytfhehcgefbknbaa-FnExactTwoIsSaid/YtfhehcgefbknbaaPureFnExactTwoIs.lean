/- TwoIs of the program answers what the reference's answers, for each integer. No condition. -/
import Derived.Test.YtfhehcgefbknbaaQFnExactTwoIsa
namespace Go.Proofs.Ytfhehcgefbknbaa.Pure
theorem FnExactTwoIs : Go.Proofs.Ytfhehcgefbknbaa.PFnExactTwoIs.laws_FnExactTwoIs.Pure := Go.Proofs.Ytfhehcgefbknbaa.QFnExactTwoIs.holds
end Go.Proofs.Ytfhehcgefbknbaa.Pure
