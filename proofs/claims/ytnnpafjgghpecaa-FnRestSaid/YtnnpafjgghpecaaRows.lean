/-
  No cell of these rows narrows 'for every input' (looked for: loops, veiled, ifaces, maps, wideKeys, modest, calm, conditions, laid).
  DERIVED. THE GIVEN ROWS OF THIS SEAT. 8 by the template 'for every input the law returns true; each argument reads behind the call as it read before'; 0 by the template 'total and deterministic' (their statements: YtnnpafjgghpecaaTotals.lean).
  GIVEN WITH THE SEED: the statements are not yours to turn. If you find one false, say at which input.
  Laid BY PROGRAM, IN A SANDBOX (cutbox-rows.mjs): the forced cells as the released guide's own fill.sh prints them over the translation a688ad017fff3970… (all of the seat's roots in one cut). By AI agents, Wed Nov 11 2026. No macro, syntax, notation, axiom, sorry.
-/
import Derived.Test.YtnnpafjgghpecaaChecked
import GoSem.Claim
import GoSem.ClaimJoined
import GoSem.ClaimMapViews
import Derived.JoinedTies
import Derived.KernelRfl
namespace Go.Proofs.Ytnnpafjgghpecaa
/- THE CELL 'sum', in the pinned program and in every row, IS THE sha256 OF THE DUMP (.gsa) THAT YtnnpafjgghpecaaProg.lean LOADS. Nothing in Lean hashes anything: it is a label: what it is worth is what the hold of that sum in a sandbox is worth. -/
noncomputable def Try.pinned : Pinned := { name := "ytnnpafjgghpecaa", sum := "a688ad017fff3970cb58c3bb8e6ff9fcbb5e342ba080934b62d6ea7d04a56487", checked := Try.checked }
namespace Rows
def none {H : Type} : Left H := { results := [], args := [] }

/-- 'laws.FnExactThreeFind': WHATEVER THE INPUT: true; the input reads as it did. -/
def fnExactThreeFindSpec : ChangeSpec := { name := "fnExactThreeFind", fn := fun _ => fun
  | [d] => { results := [.lit (.bool true)], args := [d] }
  | _ => none }
def fnExactThreeFindRow : OpenClaim := { program := "ytnnpafjgghpecaa", sum := "a688ad017fff3970cb58c3bb8e6ff9fcbb5e342ba080934b62d6ea7d04a56487", func := "loop.example/localglobal/laws.FnExactThreeFind", spec := "fnExactThreeFind", unfollowed := true, recurses := true, apart := false }
def FnExactThreeFindSaid : Prop := fnExactThreeFindRow.holds Try.pinned (OpenSpec.ofChange fnExactThreeFindSpec)

/-- ITS FALSE NEIGHBOUR: 'it returns false'. Refute it at one input. -/
def fnExactThreeFindWrong : ChangeSpec := { name := "fnExactThreeFind", fn := fun _ => fun
  | [d] => { results := [.lit (.bool false)], args := [d] }
  | _ => none }
def FnExactThreeFindWrongFalsely : Prop := fnExactThreeFindRow.holds Try.pinned (OpenSpec.ofChange fnExactThreeFindWrong)

/-- 'laws.FnExactFourFind': WHATEVER THE INPUT: true; the input reads as it did. -/
def fnExactFourFindSpec : ChangeSpec := { name := "fnExactFourFind", fn := fun _ => fun
  | [d] => { results := [.lit (.bool true)], args := [d] }
  | _ => none }
def fnExactFourFindRow : OpenClaim := { program := "ytnnpafjgghpecaa", sum := "a688ad017fff3970cb58c3bb8e6ff9fcbb5e342ba080934b62d6ea7d04a56487", func := "loop.example/localglobal/laws.FnExactFourFind", spec := "fnExactFourFind", unfollowed := true, recurses := true, apart := false }
def FnExactFourFindSaid : Prop := fnExactFourFindRow.holds Try.pinned (OpenSpec.ofChange fnExactFourFindSpec)

/-- ITS FALSE NEIGHBOUR: 'it returns false'. Refute it at one input. -/
def fnExactFourFindWrong : ChangeSpec := { name := "fnExactFourFind", fn := fun _ => fun
  | [d] => { results := [.lit (.bool false)], args := [d] }
  | _ => none }
def FnExactFourFindWrongFalsely : Prop := fnExactFourFindRow.holds Try.pinned (OpenSpec.ofChange fnExactFourFindWrong)

/-- 'laws.FnThreeFind': WHATEVER THE INPUT: true; the input reads as it did. -/
def fnThreeFindSpec : ChangeSpec := { name := "fnThreeFind", fn := fun _ => fun
  | [d] => { results := [.lit (.bool true)], args := [d] }
  | _ => none }
def fnThreeFindRow : OpenClaim := { program := "ytnnpafjgghpecaa", sum := "a688ad017fff3970cb58c3bb8e6ff9fcbb5e342ba080934b62d6ea7d04a56487", func := "loop.example/localglobal/laws.FnThreeFind", spec := "fnThreeFind", unfollowed := true, recurses := true, apart := false }
def FnThreeFindSaid : Prop := fnThreeFindRow.holds Try.pinned (OpenSpec.ofChange fnThreeFindSpec)

/-- ITS FALSE NEIGHBOUR: 'it returns false'. Refute it at one input. -/
def fnThreeFindWrong : ChangeSpec := { name := "fnThreeFind", fn := fun _ => fun
  | [d] => { results := [.lit (.bool false)], args := [d] }
  | _ => none }
def FnThreeFindWrongFalsely : Prop := fnThreeFindRow.holds Try.pinned (OpenSpec.ofChange fnThreeFindWrong)

/-- 'laws.FnFourFind': WHATEVER THE INPUT: true; the input reads as it did. -/
def fnFourFindSpec : ChangeSpec := { name := "fnFourFind", fn := fun _ => fun
  | [d] => { results := [.lit (.bool true)], args := [d] }
  | _ => none }
def fnFourFindRow : OpenClaim := { program := "ytnnpafjgghpecaa", sum := "a688ad017fff3970cb58c3bb8e6ff9fcbb5e342ba080934b62d6ea7d04a56487", func := "loop.example/localglobal/laws.FnFourFind", spec := "fnFourFind", unfollowed := true, recurses := true, apart := false }
def FnFourFindSaid : Prop := fnFourFindRow.holds Try.pinned (OpenSpec.ofChange fnFourFindSpec)

/-- ITS FALSE NEIGHBOUR: 'it returns false'. Refute it at one input. -/
def fnFourFindWrong : ChangeSpec := { name := "fnFourFind", fn := fun _ => fun
  | [d] => { results := [.lit (.bool false)], args := [d] }
  | _ => none }
def FnFourFindWrongFalsely : Prop := fnFourFindRow.holds Try.pinned (OpenSpec.ofChange fnFourFindWrong)

/-- 'laws.FnTwoFind': WHATEVER THE INPUT: true; the input reads as it did. -/
def fnTwoFindSpec : ChangeSpec := { name := "fnTwoFind", fn := fun _ => fun
  | [d] => { results := [.lit (.bool true)], args := [d] }
  | _ => none }
def fnTwoFindRow : OpenClaim := { program := "ytnnpafjgghpecaa", sum := "a688ad017fff3970cb58c3bb8e6ff9fcbb5e342ba080934b62d6ea7d04a56487", func := "loop.example/localglobal/laws.FnTwoFind", spec := "fnTwoFind", unfollowed := true, recurses := true, apart := false }
def FnTwoFindSaid : Prop := fnTwoFindRow.holds Try.pinned (OpenSpec.ofChange fnTwoFindSpec)

/-- ITS FALSE NEIGHBOUR: 'it returns false'. Refute it at one input. -/
def fnTwoFindWrong : ChangeSpec := { name := "fnTwoFind", fn := fun _ => fun
  | [d] => { results := [.lit (.bool false)], args := [d] }
  | _ => none }
def FnTwoFindWrongFalsely : Prop := fnTwoFindRow.holds Try.pinned (OpenSpec.ofChange fnTwoFindWrong)

/-- 'laws.FnRest': WHATEVER THE INPUT: true; the input reads as it did. -/
def fnRestSpec : ChangeSpec := { name := "fnRest", fn := fun _ => fun
  | [d] => { results := [.lit (.bool true)], args := [d] }
  | _ => none }
def fnRestRow : OpenClaim := { program := "ytnnpafjgghpecaa", sum := "a688ad017fff3970cb58c3bb8e6ff9fcbb5e342ba080934b62d6ea7d04a56487", func := "loop.example/localglobal/laws.FnRest", spec := "fnRest", recurses := true, apart := false }
def FnRestSaid : Prop := fnRestRow.holds Try.pinned (OpenSpec.ofChange fnRestSpec)

/-- ITS FALSE NEIGHBOUR: 'it returns false'. Refute it at one input. -/
def fnRestWrong : ChangeSpec := { name := "fnRest", fn := fun _ => fun
  | [d] => { results := [.lit (.bool false)], args := [d] }
  | _ => none }
def FnRestWrongFalsely : Prop := fnRestRow.holds Try.pinned (OpenSpec.ofChange fnRestWrong)

/-- 'laws.FnValueFind': WHATEVER THE INPUT: true; the input reads as it did. -/
def fnValueFindSpec : ChangeSpec := { name := "fnValueFind", fn := fun _ => fun
  | [d] => { results := [.lit (.bool true)], args := [d] }
  | _ => none }
def fnValueFindRow : OpenClaim := { program := "ytnnpafjgghpecaa", sum := "a688ad017fff3970cb58c3bb8e6ff9fcbb5e342ba080934b62d6ea7d04a56487", func := "loop.example/localglobal/laws.FnValueFind", spec := "fnValueFind", recurses := true, apart := false }
def FnValueFindSaid : Prop := fnValueFindRow.holds Try.pinned (OpenSpec.ofChange fnValueFindSpec)

/-- ITS FALSE NEIGHBOUR: 'it returns false'. Refute it at one input. -/
def fnValueFindWrong : ChangeSpec := { name := "fnValueFind", fn := fun _ => fun
  | [d] => { results := [.lit (.bool false)], args := [d] }
  | _ => none }
def FnValueFindWrongFalsely : Prop := fnValueFindRow.holds Try.pinned (OpenSpec.ofChange fnValueFindWrong)

/-- 'laws.FnValueThere': WHATEVER THE INPUT: true; the input reads as it did. -/
def fnValueThereSpec : ChangeSpec := { name := "fnValueThere", fn := fun _ => fun
  | [d] => { results := [.lit (.bool true)], args := [d] }
  | _ => none }
def fnValueThereRow : OpenClaim := { program := "ytnnpafjgghpecaa", sum := "a688ad017fff3970cb58c3bb8e6ff9fcbb5e342ba080934b62d6ea7d04a56487", func := "loop.example/localglobal/laws.FnValueThere", spec := "fnValueThere", recurses := true, apart := false }
def FnValueThereSaid : Prop := fnValueThereRow.holds Try.pinned (OpenSpec.ofChange fnValueThereSpec)

/-- ITS FALSE NEIGHBOUR: 'it returns false'. Refute it at one input. -/
def fnValueThereWrong : ChangeSpec := { name := "fnValueThere", fn := fun _ => fun
  | [d] => { results := [.lit (.bool false)], args := [d] }
  | _ => none }
def FnValueThereWrongFalsely : Prop := fnValueThereRow.holds Try.pinned (OpenSpec.ofChange fnValueThereWrong)

/- THE SECOND FORM. 'bulk': how many values and letters a reading holds, each counted each time it is reached (what is shared counts as often as it is met; a slice's spare places count too). A statement '..UptoSaid' is the law's where the arguments, and the package variables that the reading takes, are together of bulk at most 1048576: NARROWER than '..Said'. Prove '..Said' where nothing that the law and all that it calls make is longer than what came in: it says more and counts as full. Else prove '..UptoSaid'. A law counts once. -/
mutual
def uptoBulk {H : Type} : DataW H → Nat
  | .lit (.string bytes) => bytes.length + 1
  | .lit _ => 1
  | .nil => 1
  | .ptr d => uptoBulk d + 1
  | .slice elems spare => uptoBulkAll elems + uptoBulkAll spare + 1
  | .agg parts => uptoBulkAll parts + 1
  | .iface _ d => uptoBulk d + 1
  | .map entries => uptoBulkEntries entries + 1
  | .held _ => 1
def uptoBulkAll {H : Type} : List (DataW H) → Nat
  | [] => 0
  | d :: r => uptoBulk d + uptoBulkAll r
def uptoBulkEntries {H : Type} : List (Lit × DataW H) → Nat
  | [] => 0
  | x :: r => uptoBulkEntry x + uptoBulkEntries r
def uptoBulkEntry {H : Type} : Lit × DataW H → Nat
  | (.string bytes, d) => bytes.length + uptoBulk d + 1
  | (_, d) => uptoBulk d + 1
 end
def uptoSmall : (H : Type) → List (DataW H) → Bool := fun _ ds => decide (uptoBulkAll ds ≤ 1048576)
def OpenSpec.upto (s : _root_.Go.ChangeSpec) : _root_.Go.OpenSpec := { _root_.Go.OpenSpec.ofChange s with cond := some uptoSmall }

/-- 'laws.FnExactThreeFind', WHERE WHAT IT READS IS OF BULK AT MOST 1048576: true; the input reads as it did. -/
def fnExactThreeFindUptoRow : OpenClaim := { program := "ytnnpafjgghpecaa", sum := "a688ad017fff3970cb58c3bb8e6ff9fcbb5e342ba080934b62d6ea7d04a56487", func := "loop.example/localglobal/laws.FnExactThreeFind", spec := "fnExactThreeFind", unfollowed := true, recurses := true, apart := false, narrowed := true }
def FnExactThreeFindUptoSaid : Prop := fnExactThreeFindUptoRow.holds Try.pinned (OpenSpec.upto fnExactThreeFindSpec)

/-- 'laws.FnExactFourFind', WHERE WHAT IT READS IS OF BULK AT MOST 1048576: true; the input reads as it did. -/
def fnExactFourFindUptoRow : OpenClaim := { program := "ytnnpafjgghpecaa", sum := "a688ad017fff3970cb58c3bb8e6ff9fcbb5e342ba080934b62d6ea7d04a56487", func := "loop.example/localglobal/laws.FnExactFourFind", spec := "fnExactFourFind", unfollowed := true, recurses := true, apart := false, narrowed := true }
def FnExactFourFindUptoSaid : Prop := fnExactFourFindUptoRow.holds Try.pinned (OpenSpec.upto fnExactFourFindSpec)

/-- 'laws.FnThreeFind', WHERE WHAT IT READS IS OF BULK AT MOST 1048576: true; the input reads as it did. -/
def fnThreeFindUptoRow : OpenClaim := { program := "ytnnpafjgghpecaa", sum := "a688ad017fff3970cb58c3bb8e6ff9fcbb5e342ba080934b62d6ea7d04a56487", func := "loop.example/localglobal/laws.FnThreeFind", spec := "fnThreeFind", unfollowed := true, recurses := true, apart := false, narrowed := true }
def FnThreeFindUptoSaid : Prop := fnThreeFindUptoRow.holds Try.pinned (OpenSpec.upto fnThreeFindSpec)

/-- 'laws.FnFourFind', WHERE WHAT IT READS IS OF BULK AT MOST 1048576: true; the input reads as it did. -/
def fnFourFindUptoRow : OpenClaim := { program := "ytnnpafjgghpecaa", sum := "a688ad017fff3970cb58c3bb8e6ff9fcbb5e342ba080934b62d6ea7d04a56487", func := "loop.example/localglobal/laws.FnFourFind", spec := "fnFourFind", unfollowed := true, recurses := true, apart := false, narrowed := true }
def FnFourFindUptoSaid : Prop := fnFourFindUptoRow.holds Try.pinned (OpenSpec.upto fnFourFindSpec)

/-- 'laws.FnTwoFind', WHERE WHAT IT READS IS OF BULK AT MOST 1048576: true; the input reads as it did. -/
def fnTwoFindUptoRow : OpenClaim := { program := "ytnnpafjgghpecaa", sum := "a688ad017fff3970cb58c3bb8e6ff9fcbb5e342ba080934b62d6ea7d04a56487", func := "loop.example/localglobal/laws.FnTwoFind", spec := "fnTwoFind", unfollowed := true, recurses := true, apart := false, narrowed := true }
def FnTwoFindUptoSaid : Prop := fnTwoFindUptoRow.holds Try.pinned (OpenSpec.upto fnTwoFindSpec)

/-- 'laws.FnRest', WHERE WHAT IT READS IS OF BULK AT MOST 1048576: true; the input reads as it did. -/
def fnRestUptoRow : OpenClaim := { program := "ytnnpafjgghpecaa", sum := "a688ad017fff3970cb58c3bb8e6ff9fcbb5e342ba080934b62d6ea7d04a56487", func := "loop.example/localglobal/laws.FnRest", spec := "fnRest", recurses := true, apart := false, narrowed := true }
def FnRestUptoSaid : Prop := fnRestUptoRow.holds Try.pinned (OpenSpec.upto fnRestSpec)

/-- 'laws.FnValueFind', WHERE WHAT IT READS IS OF BULK AT MOST 1048576: true; the input reads as it did. -/
def fnValueFindUptoRow : OpenClaim := { program := "ytnnpafjgghpecaa", sum := "a688ad017fff3970cb58c3bb8e6ff9fcbb5e342ba080934b62d6ea7d04a56487", func := "loop.example/localglobal/laws.FnValueFind", spec := "fnValueFind", recurses := true, apart := false, narrowed := true }
def FnValueFindUptoSaid : Prop := fnValueFindUptoRow.holds Try.pinned (OpenSpec.upto fnValueFindSpec)

/-- 'laws.FnValueThere', WHERE WHAT IT READS IS OF BULK AT MOST 1048576: true; the input reads as it did. -/
def fnValueThereUptoRow : OpenClaim := { program := "ytnnpafjgghpecaa", sum := "a688ad017fff3970cb58c3bb8e6ff9fcbb5e342ba080934b62d6ea7d04a56487", func := "loop.example/localglobal/laws.FnValueThere", spec := "fnValueThere", recurses := true, apart := false, narrowed := true }
def FnValueThereUptoSaid : Prop := fnValueThereUptoRow.holds Try.pinned (OpenSpec.upto fnValueThereSpec)

end Rows
end Go.Proofs.Ytnnpafjgghpecaa
