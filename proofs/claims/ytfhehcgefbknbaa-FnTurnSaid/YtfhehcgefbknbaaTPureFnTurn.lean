/- Turns of a quaternion and a vector that are drawn: as the reference says; lengths are kept, the opposite quaternion turns alike, and its own vector is turned to a multiple. For each code. -/
import Derived.Test.YtfhehcgefbknbaaTQFnTurna
import Derived.Test.YtfhehcgefbknbaaTWSized
namespace Go.Proofs.Ytfhehcgefbknbaa.PrintWords
open Go.ChangeShapes Go.WideShapes
theorem sized_ints {H : Type} {enc : TypeId × Value → H} {P : Program} {W : World} {base : Nat} {spare : Nat → Bool} {held : Bool} {t e : TypeId} {k : IntKind} {a : Option Addr} {len cap : Nat} {d : DataW H} {ps : List MemPlace} {ts : List TypeId} {ds : List (DataW H)} {j : Nat}
    (hsz : (DataW.weightsEach P ts ds).all (· ≤ reachBytes) = true) (ht : ts[j]? = some t) (hd : ds[j]? = some d) (hu : P.underlying t = some (.slice e)) (he : P.underlying e = some (.int k)) (hc : P.cellsOf e = 1) {B : Nat} (hB : P.bytesOf e = B)
    (h : DataW.Trod enc P W base spare held t (.slice a len cap) d ps) : len * B ≤ 140737488351232 := Go.Proofs.YtfhehcgefbknbaaW.PrintWords.sized_ints hsz ht hd hu he hc hB h
end Go.Proofs.Ytfhehcgefbknbaa.PrintWords
namespace Go.Proofs.Ytfhehcgefbknbaa.Pure
theorem FnTurn : Go.Proofs.Ytfhehcgefbknbaa.PFnTurn.laws_FnTurn.Pure := Go.Proofs.Ytfhehcgefbknbaa.QFnTurn.holds
end Go.Proofs.Ytfhehcgefbknbaa.Pure
