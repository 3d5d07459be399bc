/- The ways of two squares of a number that is drawn: as the reference says; one way for 0, else a multiple of 4, and as many as the vectors of size at most 6 that are counted, at least, and just as many below 49. For each code. -/
import Derived.Test.YtihadpckmcebgaaTQFnTwoEacha
import Derived.Test.YtihadpckmcebgaaTWSized
namespace Go.Proofs.Ytihadpckmcebgaa.PrintWords
open Go.ChangeShapes Go.WideShapes
theorem sized_ints {H : Type} {enc : TypeId × Value → H} {P : Program} {W : World} {base : Nat} {spare : Nat → Bool} {held : Bool} {t e : TypeId} {k : IntKind} {a : Option Addr} {len cap : Nat} {d : DataW H} {ps : List MemPlace} {ts : List TypeId} {ds : List (DataW H)} {j : Nat}
    (hsz : (DataW.weightsEach P ts ds).all (· ≤ reachBytes) = true) (ht : ts[j]? = some t) (hd : ds[j]? = some d) (hu : P.underlying t = some (.slice e)) (he : P.underlying e = some (.int k)) (hc : P.cellsOf e = 1) {B : Nat} (hB : P.bytesOf e = B)
    (h : DataW.Trod enc P W base spare held t (.slice a len cap) d ps) : len * B ≤ 140737488351232 := Go.Proofs.YtihadpckmcebgaaW.PrintWords.sized_ints hsz ht hd hu he hc hB h
end Go.Proofs.Ytihadpckmcebgaa.PrintWords
namespace Go.Proofs.Ytihadpckmcebgaa.Pure
theorem FnTwoEach : Go.Proofs.Ytihadpckmcebgaa.PFnTwoEach.laws_FnTwoEach.Pure := Go.Proofs.Ytihadpckmcebgaa.QFnTwoEach.holds
end Go.Proofs.Ytihadpckmcebgaa.Pure
