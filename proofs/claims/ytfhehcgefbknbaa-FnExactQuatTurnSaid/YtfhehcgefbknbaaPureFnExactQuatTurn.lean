/- QuatTurn of the program answers what the reference's answers, for all lists, leaves its arguments as they were and hands back memory of its own. No condition. -/
import Derived.Test.YtfhehcgefbknbaaQFnExactQuatTurna
import Derived.Test.YtfhehcgefbknbaaWSized
namespace Go.Proofs.Ytfhehcgefbknbaa.PrintWords
open Go.ChangeShapes Go.WideShapes
theorem sized_ints {H : Type} {enc : TypeId × Value → H} {P : Program} {W : World} {base : Nat} {spare : Nat → Bool} {held : Bool} {t e : TypeId} {k : IntKind} {a : Option Addr} {len cap : Nat} {d : DataW H} {ps : List MemPlace} {ts : List TypeId} {ds : List (DataW H)} {j : Nat}
    (hsz : (DataW.weightsEach P ts ds).all (· ≤ reachBytes) = true) (ht : ts[j]? = some t) (hd : ds[j]? = some d) (hu : P.underlying t = some (.slice e)) (he : P.underlying e = some (.int k)) (hc : P.cellsOf e = 1) {B : Nat} (hB : P.bytesOf e = B)
    (h : DataW.Trod enc P W base spare held t (.slice a len cap) d ps) : len * B ≤ 140737488351232 := Go.Proofs.YtfhehcgefbknbaaW.PrintWords.sized_ints hsz ht hd hu he hc hB h
end Go.Proofs.Ytfhehcgefbknbaa.PrintWords
namespace Go.Proofs.Ytfhehcgefbknbaa.Pure
theorem FnExactQuatTurn : Go.Proofs.Ytfhehcgefbknbaa.PFnExactQuatTurn.laws_FnExactQuatTurn.Pure := Go.Proofs.Ytfhehcgefbknbaa.QFnExactQuatTurn.holds
end Go.Proofs.Ytfhehcgefbknbaa.Pure
