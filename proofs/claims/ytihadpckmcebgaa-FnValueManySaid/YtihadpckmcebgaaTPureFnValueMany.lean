/- Vectors of a size at most at which a form that is drawn has a number as its value, counted: as the reference says; a greater size counts as many at least; at 0 at least one more than twice the plain zeros; else an even number, and where it is not 0, the form represents the number everywhere. For each code. -/
import Derived.Test.YtihadpckmcebgaaTQFnValueManya
import Derived.Test.YtihadpckmcebgaaTWSized
namespace Go.Proofs.Ytihadpckmcebgaa.PrintWords
open Go.ChangeShapes Go.WideShapes
theorem sized_ints {H : Type} {enc : TypeId × Value → H} {P : Program} {W : World} {base : Nat} {spare : Nat → Bool} {held : Bool} {t e : TypeId} {k : IntKind} {a : Option Addr} {len cap : Nat} {d : DataW H} {ps : List MemPlace} {ts : List TypeId} {ds : List (DataW H)} {j : Nat}
    (hsz : (DataW.weightsEach P ts ds).all (· ≤ reachBytes) = true) (ht : ts[j]? = some t) (hd : ds[j]? = some d) (hu : P.underlying t = some (.slice e)) (he : P.underlying e = some (.int k)) (hc : P.cellsOf e = 1) {B : Nat} (hB : P.bytesOf e = B)
    (h : DataW.Trod enc P W base spare held t (.slice a len cap) d ps) : len * B ≤ 140737488351232 := Go.Proofs.YtihadpckmcebgaaW.PrintWords.sized_ints hsz ht hd hu he hc hB h
end Go.Proofs.Ytihadpckmcebgaa.PrintWords
namespace Go.Proofs.Ytihadpckmcebgaa.Pure
theorem FnValueMany : Go.Proofs.Ytihadpckmcebgaa.PFnValueMany.laws_FnValueMany.Pure := Go.Proofs.Ytihadpckmcebgaa.QFnValueMany.holds
end Go.Proofs.Ytihadpckmcebgaa.Pure
