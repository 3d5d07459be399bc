/-
  No cell of these rows narrows 'for every input' (looked for: loops, veiled, ifaces, maps, wideKeys, modest, calm, conditions, laid).
  DERIVED. THE GIVEN ROWS OF THIS SEAT. 12 by the template 'for every input the law returns true; each argument reads behind the call as it read before'; 0 by the template 'total and deterministic' (their statements: YtihadpckmcebgaaTotals.lean).
  GIVEN WITH THE SEED: the statements are not yours to turn. If you find one false, say at which input.
  Laid BY PROGRAM, IN A SANDBOX (cutbox-rows.mjs): the forced cells as the released guide's own fill.sh prints them over the translation ac7f1d0985b25322… (all of the seat's roots in one cut). By AI agents, Wed Nov 11 2026. No macro, syntax, notation, axiom, sorry.
-/
import Derived.Test.YtihadpckmcebgaaChecked
import GoSem.Claim
import GoSem.ClaimJoined
import GoSem.ClaimMapViews
import Derived.JoinedTies
import Derived.KernelRfl
namespace Go.Proofs.Ytihadpckmcebgaa
/- THE CELL 'sum', in the pinned program and in every row, IS THE sha256 OF THE DUMP (.gsa) THAT YtihadpckmcebgaaProg.lean LOADS. Nothing in Lean hashes anything: it is a label: what it is worth is what the hold of that sum in a sandbox is worth. -/
noncomputable def Try.pinned : Pinned := { name := "ytihadpckmcebgaa", sum := "ac7f1d0985b25322df7309039b084a04a3690dd4782e1f9eed7b00295bab09d3", checked := Try.checked }
namespace Rows
def none {H : Type} : Left H := { results := [], args := [] }

/-- 'laws.FnThreeIs': WHATEVER THE INPUT: true; the input reads as it did. -/
def fnThreeIsSpec : ChangeSpec := { name := "fnThreeIs", fn := fun _ => fun
  | [d] => { results := [.lit (.bool true)], args := [d] }
  | _ => none }
def fnThreeIsRow : OpenClaim := { program := "ytihadpckmcebgaa", sum := "ac7f1d0985b25322df7309039b084a04a3690dd4782e1f9eed7b00295bab09d3", func := "loop.example/localglobal/laws.FnThreeIs", spec := "fnThreeIs", unfollowed := true, recurses := true, apart := false }
def FnThreeIsSaid : Prop := fnThreeIsRow.holds Try.pinned (OpenSpec.ofChange fnThreeIsSpec)

/-- ITS FALSE NEIGHBOUR: 'it returns false'. Refute it at one input. -/
def fnThreeIsWrong : ChangeSpec := { name := "fnThreeIs", fn := fun _ => fun
  | [d] => { results := [.lit (.bool false)], args := [d] }
  | _ => none }
def FnThreeIsWrongFalsely : Prop := fnThreeIsRow.holds Try.pinned (OpenSpec.ofChange fnThreeIsWrong)

/-- 'laws.FnAlike': WHATEVER THE INPUT: true; the input reads as it did. -/
def fnAlikeSpec : ChangeSpec := { name := "fnAlike", fn := fun _ => fun
  | [d1, d2] => { results := [.lit (.bool true)], args := [d1, d2] }
  | _ => none }
def fnAlikeRow : OpenClaim := { program := "ytihadpckmcebgaa", sum := "ac7f1d0985b25322df7309039b084a04a3690dd4782e1f9eed7b00295bab09d3", func := "loop.example/localglobal/laws.FnAlike", spec := "fnAlike", apart := false }
def FnAlikeSaid : Prop := fnAlikeRow.holds Try.pinned (OpenSpec.ofChange fnAlikeSpec)

/-- ITS FALSE NEIGHBOUR: 'it returns false'. Refute it at one input. -/
def fnAlikeWrong : ChangeSpec := { name := "fnAlike", fn := fun _ => fun
  | [d1, d2] => { results := [.lit (.bool false)], args := [d1, d2] }
  | _ => none }
def FnAlikeWrongFalsely : Prop := fnAlikeRow.holds Try.pinned (OpenSpec.ofChange fnAlikeWrong)

/-- 'laws.FnValueAt': WHATEVER THE INPUT: true; the input reads as it did. -/
def fnValueAtSpec : ChangeSpec := { name := "fnValueAt", fn := fun _ => fun
  | [d1, d2] => { results := [.lit (.bool true)], args := [d1, d2] }
  | _ => none }
def fnValueAtRow : OpenClaim := { program := "ytihadpckmcebgaa", sum := "ac7f1d0985b25322df7309039b084a04a3690dd4782e1f9eed7b00295bab09d3", func := "loop.example/localglobal/laws.FnValueAt", spec := "fnValueAt", apart := false }
def FnValueAtSaid : Prop := fnValueAtRow.holds Try.pinned (OpenSpec.ofChange fnValueAtSpec)

/-- ITS FALSE NEIGHBOUR: 'it returns false'. Refute it at one input. -/
def fnValueAtWrong : ChangeSpec := { name := "fnValueAt", fn := fun _ => fun
  | [d1, d2] => { results := [.lit (.bool false)], args := [d1, d2] }
  | _ => none }
def FnValueAtWrongFalsely : Prop := fnValueAtRow.holds Try.pinned (OpenSpec.ofChange fnValueAtWrong)

/-- 'laws.FnPlanes': WHATEVER THE INPUT: true; the input reads as it did. -/
def fnPlanesSpec : ChangeSpec := { name := "fnPlanes", fn := fun _ => fun
  | [d] => { results := [.lit (.bool true)], args := [d] }
  | _ => none }
def fnPlanesRow : OpenClaim := { program := "ytihadpckmcebgaa", sum := "ac7f1d0985b25322df7309039b084a04a3690dd4782e1f9eed7b00295bab09d3", func := "loop.example/localglobal/laws.FnPlanes", spec := "fnPlanes", apart := false }
def FnPlanesSaid : Prop := fnPlanesRow.holds Try.pinned (OpenSpec.ofChange fnPlanesSpec)

/-- ITS FALSE NEIGHBOUR: 'it returns false'. Refute it at one input. -/
def fnPlanesWrong : ChangeSpec := { name := "fnPlanes", fn := fun _ => fun
  | [d] => { results := [.lit (.bool false)], args := [d] }
  | _ => none }
def FnPlanesWrongFalsely : Prop := fnPlanesRow.holds Try.pinned (OpenSpec.ofChange fnPlanesWrong)

/-- 'laws.FnClasses': WHATEVER THE INPUT: true; the input reads as it did. -/
def fnClassesSpec : ChangeSpec := { name := "fnClasses", fn := fun _ => fun
  | [d] => { results := [.lit (.bool true)], args := [d] }
  | _ => none }
def fnClassesRow : OpenClaim := { program := "ytihadpckmcebgaa", sum := "ac7f1d0985b25322df7309039b084a04a3690dd4782e1f9eed7b00295bab09d3", func := "loop.example/localglobal/laws.FnClasses", spec := "fnClasses", apart := false }
def FnClassesSaid : Prop := fnClassesRow.holds Try.pinned (OpenSpec.ofChange fnClassesSpec)

/-- ITS FALSE NEIGHBOUR: 'it returns false'. Refute it at one input. -/
def fnClassesWrong : ChangeSpec := { name := "fnClasses", fn := fun _ => fun
  | [d] => { results := [.lit (.bool false)], args := [d] }
  | _ => none }
def FnClassesWrongFalsely : Prop := fnClassesRow.holds Try.pinned (OpenSpec.ofChange fnClassesWrong)

/-- 'laws.FnTwoEach': WHATEVER THE INPUT: true; the input reads as it did. -/
def fnTwoEachSpec : ChangeSpec := { name := "fnTwoEach", fn := fun _ => fun
  | [d] => { results := [.lit (.bool true)], args := [d] }
  | _ => none }
def fnTwoEachRow : OpenClaim := { program := "ytihadpckmcebgaa", sum := "ac7f1d0985b25322df7309039b084a04a3690dd4782e1f9eed7b00295bab09d3", func := "loop.example/localglobal/laws.FnTwoEach", spec := "fnTwoEach", unfollowed := true, recurses := true, apart := false }
def FnTwoEachSaid : Prop := fnTwoEachRow.holds Try.pinned (OpenSpec.ofChange fnTwoEachSpec)

/-- ITS FALSE NEIGHBOUR: 'it returns false'. Refute it at one input. -/
def fnTwoEachWrong : ChangeSpec := { name := "fnTwoEach", fn := fun _ => fun
  | [d] => { results := [.lit (.bool false)], args := [d] }
  | _ => none }
def FnTwoEachWrongFalsely : Prop := fnTwoEachRow.holds Try.pinned (OpenSpec.ofChange fnTwoEachWrong)

/-- 'laws.FnTermsValue': WHATEVER THE INPUT: true; the input reads as it did. -/
def fnTermsValueSpec : ChangeSpec := { name := "fnTermsValue", fn := fun _ => fun
  | [d] => { results := [.lit (.bool true)], args := [d] }
  | _ => none }
def fnTermsValueRow : OpenClaim := { program := "ytihadpckmcebgaa", sum := "ac7f1d0985b25322df7309039b084a04a3690dd4782e1f9eed7b00295bab09d3", func := "loop.example/localglobal/laws.FnTermsValue", spec := "fnTermsValue", recurses := true, apart := false }
def FnTermsValueSaid : Prop := fnTermsValueRow.holds Try.pinned (OpenSpec.ofChange fnTermsValueSpec)

/-- ITS FALSE NEIGHBOUR: 'it returns false'. Refute it at one input. -/
def fnTermsValueWrong : ChangeSpec := { name := "fnTermsValue", fn := fun _ => fun
  | [d] => { results := [.lit (.bool false)], args := [d] }
  | _ => none }
def FnTermsValueWrongFalsely : Prop := fnTermsValueRow.holds Try.pinned (OpenSpec.ofChange fnTermsValueWrong)

/-- 'laws.FnValueBad': WHATEVER THE INPUT: true; the input reads as it did. -/
def fnValueBadSpec : ChangeSpec := { name := "fnValueBad", fn := fun _ => fun
  | [d] => { results := [.lit (.bool true)], args := [d] }
  | _ => none }
def fnValueBadRow : OpenClaim := { program := "ytihadpckmcebgaa", sum := "ac7f1d0985b25322df7309039b084a04a3690dd4782e1f9eed7b00295bab09d3", func := "loop.example/localglobal/laws.FnValueBad", spec := "fnValueBad", recurses := true, apart := false }
def FnValueBadSaid : Prop := fnValueBadRow.holds Try.pinned (OpenSpec.ofChange fnValueBadSpec)

/-- ITS FALSE NEIGHBOUR: 'it returns false'. Refute it at one input. -/
def fnValueBadWrong : ChangeSpec := { name := "fnValueBad", fn := fun _ => fun
  | [d] => { results := [.lit (.bool false)], args := [d] }
  | _ => none }
def FnValueBadWrongFalsely : Prop := fnValueBadRow.holds Try.pinned (OpenSpec.ofChange fnValueBadWrong)

/-- 'laws.FnPlanesAll': WHATEVER THE INPUT: true; the input reads as it did. -/
def fnPlanesAllSpec : ChangeSpec := { name := "fnPlanesAll", fn := fun _ => fun
  | [d1, d2] => { results := [.lit (.bool true)], args := [d1, d2] }
  | _ => none }
def fnPlanesAllRow : OpenClaim := { program := "ytihadpckmcebgaa", sum := "ac7f1d0985b25322df7309039b084a04a3690dd4782e1f9eed7b00295bab09d3", func := "loop.example/localglobal/laws.FnPlanesAll", spec := "fnPlanesAll", recurses := true, apart := false }
def FnPlanesAllSaid : Prop := fnPlanesAllRow.holds Try.pinned (OpenSpec.ofChange fnPlanesAllSpec)

/-- ITS FALSE NEIGHBOUR: 'it returns false'. Refute it at one input. -/
def fnPlanesAllWrong : ChangeSpec := { name := "fnPlanesAll", fn := fun _ => fun
  | [d1, d2] => { results := [.lit (.bool false)], args := [d1, d2] }
  | _ => none }
def FnPlanesAllWrongFalsely : Prop := fnPlanesAllRow.holds Try.pinned (OpenSpec.ofChange fnPlanesAllWrong)

/-- 'laws.FnWitt': WHATEVER THE INPUT: true; the input reads as it did. -/
def fnWittSpec : ChangeSpec := { name := "fnWitt", fn := fun _ => fun
  | [d] => { results := [.lit (.bool true)], args := [d] }
  | _ => none }
def fnWittRow : OpenClaim := { program := "ytihadpckmcebgaa", sum := "ac7f1d0985b25322df7309039b084a04a3690dd4782e1f9eed7b00295bab09d3", func := "loop.example/localglobal/laws.FnWitt", spec := "fnWitt", recurses := true, apart := false }
def FnWittSaid : Prop := fnWittRow.holds Try.pinned (OpenSpec.ofChange fnWittSpec)

/-- ITS FALSE NEIGHBOUR: 'it returns false'. Refute it at one input. -/
def fnWittWrong : ChangeSpec := { name := "fnWitt", fn := fun _ => fun
  | [d] => { results := [.lit (.bool false)], args := [d] }
  | _ => none }
def FnWittWrongFalsely : Prop := fnWittRow.holds Try.pinned (OpenSpec.ofChange fnWittWrong)

/-- 'laws.FnTwoIs': WHATEVER THE INPUT: true; the input reads as it did. -/
def fnTwoIsSpec : ChangeSpec := { name := "fnTwoIs", fn := fun _ => fun
  | [d] => { results := [.lit (.bool true)], args := [d] }
  | _ => none }
def fnTwoIsRow : OpenClaim := { program := "ytihadpckmcebgaa", sum := "ac7f1d0985b25322df7309039b084a04a3690dd4782e1f9eed7b00295bab09d3", func := "loop.example/localglobal/laws.FnTwoIs", spec := "fnTwoIs", unfollowed := true, recurses := true, apart := false }
def FnTwoIsSaid : Prop := fnTwoIsRow.holds Try.pinned (OpenSpec.ofChange fnTwoIsSpec)

/-- ITS FALSE NEIGHBOUR: 'it returns false'. Refute it at one input. -/
def fnTwoIsWrong : ChangeSpec := { name := "fnTwoIs", fn := fun _ => fun
  | [d] => { results := [.lit (.bool false)], args := [d] }
  | _ => none }
def FnTwoIsWrongFalsely : Prop := fnTwoIsRow.holds Try.pinned (OpenSpec.ofChange fnTwoIsWrong)

/-- 'laws.FnValueMany': WHATEVER THE INPUT: true; the input reads as it did. -/
def fnValueManySpec : ChangeSpec := { name := "fnValueMany", fn := fun _ => fun
  | [d] => { results := [.lit (.bool true)], args := [d] }
  | _ => none }
def fnValueManyRow : OpenClaim := { program := "ytihadpckmcebgaa", sum := "ac7f1d0985b25322df7309039b084a04a3690dd4782e1f9eed7b00295bab09d3", func := "loop.example/localglobal/laws.FnValueMany", spec := "fnValueMany", unfollowed := true, recurses := true, apart := false }
def FnValueManySaid : Prop := fnValueManyRow.holds Try.pinned (OpenSpec.ofChange fnValueManySpec)

/-- ITS FALSE NEIGHBOUR: 'it returns false'. Refute it at one input. -/
def fnValueManyWrong : ChangeSpec := { name := "fnValueMany", fn := fun _ => fun
  | [d] => { results := [.lit (.bool false)], args := [d] }
  | _ => none }
def FnValueManyWrongFalsely : Prop := fnValueManyRow.holds Try.pinned (OpenSpec.ofChange fnValueManyWrong)

/- THE SECOND FORM. 'bulk': how many values and letters a reading holds, each counted each time it is reached (what is shared counts as often as it is met; a slice's spare places count too). A statement '..UptoSaid' is the law's where the arguments, and the package variables that the reading takes, are together of bulk at most 1048576: NARROWER than '..Said'. Prove '..Said' where nothing that the law and all that it calls make is longer than what came in: it says more and counts as full. Else prove '..UptoSaid'. A law counts once. -/
mutual
def uptoBulk {H : Type} : DataW H → Nat
  | .lit (.string bytes) => bytes.length + 1
  | .lit _ => 1
  | .nil => 1
  | .ptr d => uptoBulk d + 1
  | .slice elems spare => uptoBulkAll elems + uptoBulkAll spare + 1
  | .agg parts => uptoBulkAll parts + 1
  | .iface _ d => uptoBulk d + 1
  | .map entries => uptoBulkEntries entries + 1
  | .held _ => 1
def uptoBulkAll {H : Type} : List (DataW H) → Nat
  | [] => 0
  | d :: r => uptoBulk d + uptoBulkAll r
def uptoBulkEntries {H : Type} : List (Lit × DataW H) → Nat
  | [] => 0
  | x :: r => uptoBulkEntry x + uptoBulkEntries r
def uptoBulkEntry {H : Type} : Lit × DataW H → Nat
  | (.string bytes, d) => bytes.length + uptoBulk d + 1
  | (_, d) => uptoBulk d + 1
 end
def uptoSmall : (H : Type) → List (DataW H) → Bool := fun _ ds => decide (uptoBulkAll ds ≤ 1048576)
def OpenSpec.upto (s : _root_.Go.ChangeSpec) : _root_.Go.OpenSpec := { _root_.Go.OpenSpec.ofChange s with cond := some uptoSmall }

/-- 'laws.FnThreeIs', WHERE WHAT IT READS IS OF BULK AT MOST 1048576: true; the input reads as it did. -/
def fnThreeIsUptoRow : OpenClaim := { program := "ytihadpckmcebgaa", sum := "ac7f1d0985b25322df7309039b084a04a3690dd4782e1f9eed7b00295bab09d3", func := "loop.example/localglobal/laws.FnThreeIs", spec := "fnThreeIs", unfollowed := true, recurses := true, apart := false, narrowed := true }
def FnThreeIsUptoSaid : Prop := fnThreeIsUptoRow.holds Try.pinned (OpenSpec.upto fnThreeIsSpec)

/-- 'laws.FnAlike', WHERE WHAT IT READS IS OF BULK AT MOST 1048576: true; the input reads as it did. -/
def fnAlikeUptoRow : OpenClaim := { program := "ytihadpckmcebgaa", sum := "ac7f1d0985b25322df7309039b084a04a3690dd4782e1f9eed7b00295bab09d3", func := "loop.example/localglobal/laws.FnAlike", spec := "fnAlike", apart := false, narrowed := true }
def FnAlikeUptoSaid : Prop := fnAlikeUptoRow.holds Try.pinned (OpenSpec.upto fnAlikeSpec)

/-- 'laws.FnValueAt', WHERE WHAT IT READS IS OF BULK AT MOST 1048576: true; the input reads as it did. -/
def fnValueAtUptoRow : OpenClaim := { program := "ytihadpckmcebgaa", sum := "ac7f1d0985b25322df7309039b084a04a3690dd4782e1f9eed7b00295bab09d3", func := "loop.example/localglobal/laws.FnValueAt", spec := "fnValueAt", apart := false, narrowed := true }
def FnValueAtUptoSaid : Prop := fnValueAtUptoRow.holds Try.pinned (OpenSpec.upto fnValueAtSpec)

/-- 'laws.FnPlanes', WHERE WHAT IT READS IS OF BULK AT MOST 1048576: true; the input reads as it did. -/
def fnPlanesUptoRow : OpenClaim := { program := "ytihadpckmcebgaa", sum := "ac7f1d0985b25322df7309039b084a04a3690dd4782e1f9eed7b00295bab09d3", func := "loop.example/localglobal/laws.FnPlanes", spec := "fnPlanes", apart := false, narrowed := true }
def FnPlanesUptoSaid : Prop := fnPlanesUptoRow.holds Try.pinned (OpenSpec.upto fnPlanesSpec)

/-- 'laws.FnClasses', WHERE WHAT IT READS IS OF BULK AT MOST 1048576: true; the input reads as it did. -/
def fnClassesUptoRow : OpenClaim := { program := "ytihadpckmcebgaa", sum := "ac7f1d0985b25322df7309039b084a04a3690dd4782e1f9eed7b00295bab09d3", func := "loop.example/localglobal/laws.FnClasses", spec := "fnClasses", apart := false, narrowed := true }
def FnClassesUptoSaid : Prop := fnClassesUptoRow.holds Try.pinned (OpenSpec.upto fnClassesSpec)

/-- 'laws.FnTwoEach', WHERE WHAT IT READS IS OF BULK AT MOST 1048576: true; the input reads as it did. -/
def fnTwoEachUptoRow : OpenClaim := { program := "ytihadpckmcebgaa", sum := "ac7f1d0985b25322df7309039b084a04a3690dd4782e1f9eed7b00295bab09d3", func := "loop.example/localglobal/laws.FnTwoEach", spec := "fnTwoEach", unfollowed := true, recurses := true, apart := false, narrowed := true }
def FnTwoEachUptoSaid : Prop := fnTwoEachUptoRow.holds Try.pinned (OpenSpec.upto fnTwoEachSpec)

/-- 'laws.FnTermsValue', WHERE WHAT IT READS IS OF BULK AT MOST 1048576: true; the input reads as it did. -/
def fnTermsValueUptoRow : OpenClaim := { program := "ytihadpckmcebgaa", sum := "ac7f1d0985b25322df7309039b084a04a3690dd4782e1f9eed7b00295bab09d3", func := "loop.example/localglobal/laws.FnTermsValue", spec := "fnTermsValue", recurses := true, apart := false, narrowed := true }
def FnTermsValueUptoSaid : Prop := fnTermsValueUptoRow.holds Try.pinned (OpenSpec.upto fnTermsValueSpec)

/-- 'laws.FnValueBad', WHERE WHAT IT READS IS OF BULK AT MOST 1048576: true; the input reads as it did. -/
def fnValueBadUptoRow : OpenClaim := { program := "ytihadpckmcebgaa", sum := "ac7f1d0985b25322df7309039b084a04a3690dd4782e1f9eed7b00295bab09d3", func := "loop.example/localglobal/laws.FnValueBad", spec := "fnValueBad", recurses := true, apart := false, narrowed := true }
def FnValueBadUptoSaid : Prop := fnValueBadUptoRow.holds Try.pinned (OpenSpec.upto fnValueBadSpec)

/-- 'laws.FnPlanesAll', WHERE WHAT IT READS IS OF BULK AT MOST 1048576: true; the input reads as it did. -/
def fnPlanesAllUptoRow : OpenClaim := { program := "ytihadpckmcebgaa", sum := "ac7f1d0985b25322df7309039b084a04a3690dd4782e1f9eed7b00295bab09d3", func := "loop.example/localglobal/laws.FnPlanesAll", spec := "fnPlanesAll", recurses := true, apart := false, narrowed := true }
def FnPlanesAllUptoSaid : Prop := fnPlanesAllUptoRow.holds Try.pinned (OpenSpec.upto fnPlanesAllSpec)

/-- 'laws.FnWitt', WHERE WHAT IT READS IS OF BULK AT MOST 1048576: true; the input reads as it did. -/
def fnWittUptoRow : OpenClaim := { program := "ytihadpckmcebgaa", sum := "ac7f1d0985b25322df7309039b084a04a3690dd4782e1f9eed7b00295bab09d3", func := "loop.example/localglobal/laws.FnWitt", spec := "fnWitt", recurses := true, apart := false, narrowed := true }
def FnWittUptoSaid : Prop := fnWittUptoRow.holds Try.pinned (OpenSpec.upto fnWittSpec)

/-- 'laws.FnTwoIs', WHERE WHAT IT READS IS OF BULK AT MOST 1048576: true; the input reads as it did. -/
def fnTwoIsUptoRow : OpenClaim := { program := "ytihadpckmcebgaa", sum := "ac7f1d0985b25322df7309039b084a04a3690dd4782e1f9eed7b00295bab09d3", func := "loop.example/localglobal/laws.FnTwoIs", spec := "fnTwoIs", unfollowed := true, recurses := true, apart := false, narrowed := true }
def FnTwoIsUptoSaid : Prop := fnTwoIsUptoRow.holds Try.pinned (OpenSpec.upto fnTwoIsSpec)

/-- 'laws.FnValueMany', WHERE WHAT IT READS IS OF BULK AT MOST 1048576: true; the input reads as it did. -/
def fnValueManyUptoRow : OpenClaim := { program := "ytihadpckmcebgaa", sum := "ac7f1d0985b25322df7309039b084a04a3690dd4782e1f9eed7b00295bab09d3", func := "loop.example/localglobal/laws.FnValueMany", spec := "fnValueMany", unfollowed := true, recurses := true, apart := false, narrowed := true }
def FnValueManyUptoSaid : Prop := fnValueManyUptoRow.holds Try.pinned (OpenSpec.upto fnValueManySpec)

end Rows
end Go.Proofs.Ytihadpckmcebgaa
