/-
  No cell of these rows narrows 'for every input' (looked for: loops, veiled, ifaces, maps, wideKeys, modest, calm, conditions, laid).
  DERIVED. THE GIVEN ROWS OF THIS SEAT. 12 by the template 'for every input the law returns true; each argument reads behind the call as it read before'; 0 by the template 'total and deterministic' (their statements: YtfhehcgefbknbaaTotals.lean).
  GIVEN WITH THE SEED: the statements are not yours to turn. If you find one false, say at which input.
  Laid BY PROGRAM, IN A SANDBOX (cutbox-rows.mjs): the forced cells as the released guide's own fill.sh prints them over the translation e97a588c4e4a8528… (all of the seat's roots in one cut). By AI agents, Wed Nov 11 2026. No macro, syntax, notation, axiom, sorry.
-/
import Derived.Test.YtfhehcgefbknbaaChecked
import GoSem.Claim
import GoSem.ClaimJoined
import GoSem.ClaimMapViews
import Derived.JoinedTies
import Derived.KernelRfl
namespace Go.Proofs.Ytfhehcgefbknbaa
/- THE CELL 'sum', in the pinned program and in every row, IS THE sha256 OF THE DUMP (.gsa) THAT YtfhehcgefbknbaaProg.lean LOADS. Nothing in Lean hashes anything: it is a label: what it is worth is what the hold of that sum in a sandbox is worth. -/
noncomputable def Try.pinned : Pinned := { name := "ytfhehcgefbknbaa", sum := "e97a588c4e4a8528bcb5b546ee4642b6cf75d80700f5079b5d06b298a6dfeab0", checked := Try.checked }
namespace Rows
def none {H : Type} : Left H := { results := [], args := [] }

/-- 'laws.FnExactTwoFind': WHATEVER THE INPUT: true; the input reads as it did. -/
def fnExactTwoFindSpec : ChangeSpec := { name := "fnExactTwoFind", fn := fun _ => fun
  | [d] => { results := [.lit (.bool true)], args := [d] }
  | _ => none }
def fnExactTwoFindRow : OpenClaim := { program := "ytfhehcgefbknbaa", sum := "e97a588c4e4a8528bcb5b546ee4642b6cf75d80700f5079b5d06b298a6dfeab0", func := "loop.example/localglobal/laws.FnExactTwoFind", spec := "fnExactTwoFind", unfollowed := true, recurses := true, apart := false }
def FnExactTwoFindSaid : Prop := fnExactTwoFindRow.holds Try.pinned (OpenSpec.ofChange fnExactTwoFindSpec)

/-- ITS FALSE NEIGHBOUR: 'it returns false'. Refute it at one input. -/
def fnExactTwoFindWrong : ChangeSpec := { name := "fnExactTwoFind", fn := fun _ => fun
  | [d] => { results := [.lit (.bool false)], args := [d] }
  | _ => none }
def FnExactTwoFindWrongFalsely : Prop := fnExactTwoFindRow.holds Try.pinned (OpenSpec.ofChange fnExactTwoFindWrong)

/-- 'laws.FnExactTwoEach': WHATEVER THE INPUT: true; the input reads as it did. -/
def fnExactTwoEachSpec : ChangeSpec := { name := "fnExactTwoEach", fn := fun _ => fun
  | [d] => { results := [.lit (.bool true)], args := [d] }
  | _ => none }
def fnExactTwoEachRow : OpenClaim := { program := "ytfhehcgefbknbaa", sum := "e97a588c4e4a8528bcb5b546ee4642b6cf75d80700f5079b5d06b298a6dfeab0", func := "loop.example/localglobal/laws.FnExactTwoEach", spec := "fnExactTwoEach", apart := false }
def FnExactTwoEachSaid : Prop := fnExactTwoEachRow.holds Try.pinned (OpenSpec.ofChange fnExactTwoEachSpec)

/-- ITS FALSE NEIGHBOUR: 'it returns false'. Refute it at one input. -/
def fnExactTwoEachWrong : ChangeSpec := { name := "fnExactTwoEach", fn := fun _ => fun
  | [d] => { results := [.lit (.bool false)], args := [d] }
  | _ => none }
def FnExactTwoEachWrongFalsely : Prop := fnExactTwoEachRow.holds Try.pinned (OpenSpec.ofChange fnExactTwoEachWrong)

/-- 'laws.FnExactQuatMul': WHATEVER THE INPUT: true; the input reads as it did. -/
def fnExactQuatMulSpec : ChangeSpec := { name := "fnExactQuatMul", fn := fun _ => fun
  | [d1, d2] => { results := [.lit (.bool true)], args := [d1, d2] }
  | _ => none }
def fnExactQuatMulRow : OpenClaim := { program := "ytfhehcgefbknbaa", sum := "e97a588c4e4a8528bcb5b546ee4642b6cf75d80700f5079b5d06b298a6dfeab0", func := "loop.example/localglobal/laws.FnExactQuatMul", spec := "fnExactQuatMul", apart := false }
def FnExactQuatMulSaid : Prop := fnExactQuatMulRow.holds Try.pinned (OpenSpec.ofChange fnExactQuatMulSpec)

/-- ITS FALSE NEIGHBOUR: 'it returns false'. Refute it at one input. -/
def fnExactQuatMulWrong : ChangeSpec := { name := "fnExactQuatMul", fn := fun _ => fun
  | [d1, d2] => { results := [.lit (.bool false)], args := [d1, d2] }
  | _ => none }
def FnExactQuatMulWrongFalsely : Prop := fnExactQuatMulRow.holds Try.pinned (OpenSpec.ofChange fnExactQuatMulWrong)

/-- 'laws.FnExactFourEach': WHATEVER THE INPUT: true; the input reads as it did. -/
def fnExactFourEachSpec : ChangeSpec := { name := "fnExactFourEach", fn := fun _ => fun
  | [d] => { results := [.lit (.bool true)], args := [d] }
  | _ => none }
def fnExactFourEachRow : OpenClaim := { program := "ytfhehcgefbknbaa", sum := "e97a588c4e4a8528bcb5b546ee4642b6cf75d80700f5079b5d06b298a6dfeab0", func := "loop.example/localglobal/laws.FnExactFourEach", spec := "fnExactFourEach", apart := false }
def FnExactFourEachSaid : Prop := fnExactFourEachRow.holds Try.pinned (OpenSpec.ofChange fnExactFourEachSpec)

/-- ITS FALSE NEIGHBOUR: 'it returns false'. Refute it at one input. -/
def fnExactFourEachWrong : ChangeSpec := { name := "fnExactFourEach", fn := fun _ => fun
  | [d] => { results := [.lit (.bool false)], args := [d] }
  | _ => none }
def FnExactFourEachWrongFalsely : Prop := fnExactFourEachRow.holds Try.pinned (OpenSpec.ofChange fnExactFourEachWrong)

/-- 'laws.FnExactTwoIs': WHATEVER THE INPUT: true; the input reads as it did. -/
def fnExactTwoIsSpec : ChangeSpec := { name := "fnExactTwoIs", fn := fun _ => fun
  | [d] => { results := [.lit (.bool true)], args := [d] }
  | _ => none }
def fnExactTwoIsRow : OpenClaim := { program := "ytfhehcgefbknbaa", sum := "e97a588c4e4a8528bcb5b546ee4642b6cf75d80700f5079b5d06b298a6dfeab0", func := "loop.example/localglobal/laws.FnExactTwoIs", spec := "fnExactTwoIs", apart := false }
def FnExactTwoIsSaid : Prop := fnExactTwoIsRow.holds Try.pinned (OpenSpec.ofChange fnExactTwoIsSpec)

/-- ITS FALSE NEIGHBOUR: 'it returns false'. Refute it at one input. -/
def fnExactTwoIsWrong : ChangeSpec := { name := "fnExactTwoIs", fn := fun _ => fun
  | [d] => { results := [.lit (.bool false)], args := [d] }
  | _ => none }
def FnExactTwoIsWrongFalsely : Prop := fnExactTwoIsRow.holds Try.pinned (OpenSpec.ofChange fnExactTwoIsWrong)

/-- 'laws.FnFourMany': WHATEVER THE INPUT: true; the input reads as it did. -/
def fnFourManySpec : ChangeSpec := { name := "fnFourMany", fn := fun _ => fun
  | [d] => { results := [.lit (.bool true)], args := [d] }
  | _ => none }
def fnFourManyRow : OpenClaim := { program := "ytfhehcgefbknbaa", sum := "e97a588c4e4a8528bcb5b546ee4642b6cf75d80700f5079b5d06b298a6dfeab0", func := "loop.example/localglobal/laws.FnFourMany", spec := "fnFourMany", apart := false }
def FnFourManySaid : Prop := fnFourManyRow.holds Try.pinned (OpenSpec.ofChange fnFourManySpec)

/-- ITS FALSE NEIGHBOUR: 'it returns false'. Refute it at one input. -/
def fnFourManyWrong : ChangeSpec := { name := "fnFourMany", fn := fun _ => fun
  | [d] => { results := [.lit (.bool false)], args := [d] }
  | _ => none }
def FnFourManyWrongFalsely : Prop := fnFourManyRow.holds Try.pinned (OpenSpec.ofChange fnFourManyWrong)

/-- 'laws.FnQuatNorm': WHATEVER THE INPUT: true; the input reads as it did. -/
def fnQuatNormSpec : ChangeSpec := { name := "fnQuatNorm", fn := fun _ => fun
  | [d] => { results := [.lit (.bool true)], args := [d] }
  | _ => none }
def fnQuatNormRow : OpenClaim := { program := "ytfhehcgefbknbaa", sum := "e97a588c4e4a8528bcb5b546ee4642b6cf75d80700f5079b5d06b298a6dfeab0", func := "loop.example/localglobal/laws.FnQuatNorm", spec := "fnQuatNorm", apart := false }
def FnQuatNormSaid : Prop := fnQuatNormRow.holds Try.pinned (OpenSpec.ofChange fnQuatNormSpec)

/-- ITS FALSE NEIGHBOUR: 'it returns false'. Refute it at one input. -/
def fnQuatNormWrong : ChangeSpec := { name := "fnQuatNorm", fn := fun _ => fun
  | [d] => { results := [.lit (.bool false)], args := [d] }
  | _ => none }
def FnQuatNormWrongFalsely : Prop := fnQuatNormRow.holds Try.pinned (OpenSpec.ofChange fnQuatNormWrong)

/-- 'laws.FnQuatMul': WHATEVER THE INPUT: true; the input reads as it did. -/
def fnQuatMulSpec : ChangeSpec := { name := "fnQuatMul", fn := fun _ => fun
  | [d1, d2] => { results := [.lit (.bool true)], args := [d1, d2] }
  | _ => none }
def fnQuatMulRow : OpenClaim := { program := "ytfhehcgefbknbaa", sum := "e97a588c4e4a8528bcb5b546ee4642b6cf75d80700f5079b5d06b298a6dfeab0", func := "loop.example/localglobal/laws.FnQuatMul", spec := "fnQuatMul", apart := false }
def FnQuatMulSaid : Prop := fnQuatMulRow.holds Try.pinned (OpenSpec.ofChange fnQuatMulSpec)

/-- ITS FALSE NEIGHBOUR: 'it returns false'. Refute it at one input. -/
def fnQuatMulWrong : ChangeSpec := { name := "fnQuatMul", fn := fun _ => fun
  | [d1, d2] => { results := [.lit (.bool false)], args := [d1, d2] }
  | _ => none }
def FnQuatMulWrongFalsely : Prop := fnQuatMulRow.holds Try.pinned (OpenSpec.ofChange fnQuatMulWrong)

/-- 'laws.FnFourEach': WHATEVER THE INPUT: true; the input reads as it did. -/
def fnFourEachSpec : ChangeSpec := { name := "fnFourEach", fn := fun _ => fun
  | [d] => { results := [.lit (.bool true)], args := [d] }
  | _ => none }
def fnFourEachRow : OpenClaim := { program := "ytfhehcgefbknbaa", sum := "e97a588c4e4a8528bcb5b546ee4642b6cf75d80700f5079b5d06b298a6dfeab0", func := "loop.example/localglobal/laws.FnFourEach", spec := "fnFourEach", apart := false }
def FnFourEachSaid : Prop := fnFourEachRow.holds Try.pinned (OpenSpec.ofChange fnFourEachSpec)

/-- ITS FALSE NEIGHBOUR: 'it returns false'. Refute it at one input. -/
def fnFourEachWrong : ChangeSpec := { name := "fnFourEach", fn := fun _ => fun
  | [d] => { results := [.lit (.bool false)], args := [d] }
  | _ => none }
def FnFourEachWrongFalsely : Prop := fnFourEachRow.holds Try.pinned (OpenSpec.ofChange fnFourEachWrong)

/-- 'laws.FnTwoMany': WHATEVER THE INPUT: true; the input reads as it did. -/
def fnTwoManySpec : ChangeSpec := { name := "fnTwoMany", fn := fun _ => fun
  | [d] => { results := [.lit (.bool true)], args := [d] }
  | _ => none }
def fnTwoManyRow : OpenClaim := { program := "ytfhehcgefbknbaa", sum := "e97a588c4e4a8528bcb5b546ee4642b6cf75d80700f5079b5d06b298a6dfeab0", func := "loop.example/localglobal/laws.FnTwoMany", spec := "fnTwoMany", apart := false }
def FnTwoManySaid : Prop := fnTwoManyRow.holds Try.pinned (OpenSpec.ofChange fnTwoManySpec)

/-- ITS FALSE NEIGHBOUR: 'it returns false'. Refute it at one input. -/
def fnTwoManyWrong : ChangeSpec := { name := "fnTwoMany", fn := fun _ => fun
  | [d] => { results := [.lit (.bool false)], args := [d] }
  | _ => none }
def FnTwoManyWrongFalsely : Prop := fnTwoManyRow.holds Try.pinned (OpenSpec.ofChange fnTwoManyWrong)

/-- 'laws.FnExactQuatTurn': WHATEVER THE INPUT: true; the input reads as it did. -/
def fnExactQuatTurnSpec : ChangeSpec := { name := "fnExactQuatTurn", fn := fun _ => fun
  | [d1, d2] => { results := [.lit (.bool true)], args := [d1, d2] }
  | _ => none }
def fnExactQuatTurnRow : OpenClaim := { program := "ytfhehcgefbknbaa", sum := "e97a588c4e4a8528bcb5b546ee4642b6cf75d80700f5079b5d06b298a6dfeab0", func := "loop.example/localglobal/laws.FnExactQuatTurn", spec := "fnExactQuatTurn", apart := false }
def FnExactQuatTurnSaid : Prop := fnExactQuatTurnRow.holds Try.pinned (OpenSpec.ofChange fnExactQuatTurnSpec)

/-- ITS FALSE NEIGHBOUR: 'it returns false'. Refute it at one input. -/
def fnExactQuatTurnWrong : ChangeSpec := { name := "fnExactQuatTurn", fn := fun _ => fun
  | [d1, d2] => { results := [.lit (.bool false)], args := [d1, d2] }
  | _ => none }
def FnExactQuatTurnWrongFalsely : Prop := fnExactQuatTurnRow.holds Try.pinned (OpenSpec.ofChange fnExactQuatTurnWrong)

/-- 'laws.FnTurn': WHATEVER THE INPUT: true; the input reads as it did. -/
def fnTurnSpec : ChangeSpec := { name := "fnTurn", fn := fun _ => fun
  | [d] => { results := [.lit (.bool true)], args := [d] }
  | _ => none }
def fnTurnRow : OpenClaim := { program := "ytfhehcgefbknbaa", sum := "e97a588c4e4a8528bcb5b546ee4642b6cf75d80700f5079b5d06b298a6dfeab0", func := "loop.example/localglobal/laws.FnTurn", spec := "fnTurn", apart := false }
def FnTurnSaid : Prop := fnTurnRow.holds Try.pinned (OpenSpec.ofChange fnTurnSpec)

/-- ITS FALSE NEIGHBOUR: 'it returns false'. Refute it at one input. -/
def fnTurnWrong : ChangeSpec := { name := "fnTurn", fn := fun _ => fun
  | [d] => { results := [.lit (.bool false)], args := [d] }
  | _ => none }
def FnTurnWrongFalsely : Prop := fnTurnRow.holds Try.pinned (OpenSpec.ofChange fnTurnWrong)

/- THE SECOND FORM. 'bulk': how many values and letters a reading holds, each counted each time it is reached (what is shared counts as often as it is met; a slice's spare places count too). A statement '..UptoSaid' is the law's where the arguments, and the package variables that the reading takes, are together of bulk at most 1048576: NARROWER than '..Said'. Prove '..Said' where nothing that the law and all that it calls make is longer than what came in: it says more and counts as full. Else prove '..UptoSaid'. A law counts once. -/
mutual
def uptoBulk {H : Type} : DataW H → Nat
  | .lit (.string bytes) => bytes.length + 1
  | .lit _ => 1
  | .nil => 1
  | .ptr d => uptoBulk d + 1
  | .slice elems spare => uptoBulkAll elems + uptoBulkAll spare + 1
  | .agg parts => uptoBulkAll parts + 1
  | .iface _ d => uptoBulk d + 1
  | .map entries => uptoBulkEntries entries + 1
  | .held _ => 1
def uptoBulkAll {H : Type} : List (DataW H) → Nat
  | [] => 0
  | d :: r => uptoBulk d + uptoBulkAll r
def uptoBulkEntries {H : Type} : List (Lit × DataW H) → Nat
  | [] => 0
  | x :: r => uptoBulkEntry x + uptoBulkEntries r
def uptoBulkEntry {H : Type} : Lit × DataW H → Nat
  | (.string bytes, d) => bytes.length + uptoBulk d + 1
  | (_, d) => uptoBulk d + 1
 end
def uptoSmall : (H : Type) → List (DataW H) → Bool := fun _ ds => decide (uptoBulkAll ds ≤ 1048576)
def OpenSpec.upto (s : _root_.Go.ChangeSpec) : _root_.Go.OpenSpec := { _root_.Go.OpenSpec.ofChange s with cond := some uptoSmall }

/-- 'laws.FnExactTwoFind', WHERE WHAT IT READS IS OF BULK AT MOST 1048576: true; the input reads as it did. -/
def fnExactTwoFindUptoRow : OpenClaim := { program := "ytfhehcgefbknbaa", sum := "e97a588c4e4a8528bcb5b546ee4642b6cf75d80700f5079b5d06b298a6dfeab0", func := "loop.example/localglobal/laws.FnExactTwoFind", spec := "fnExactTwoFind", unfollowed := true, recurses := true, apart := false, narrowed := true }
def FnExactTwoFindUptoSaid : Prop := fnExactTwoFindUptoRow.holds Try.pinned (OpenSpec.upto fnExactTwoFindSpec)

/-- 'laws.FnExactTwoEach', WHERE WHAT IT READS IS OF BULK AT MOST 1048576: true; the input reads as it did. -/
def fnExactTwoEachUptoRow : OpenClaim := { program := "ytfhehcgefbknbaa", sum := "e97a588c4e4a8528bcb5b546ee4642b6cf75d80700f5079b5d06b298a6dfeab0", func := "loop.example/localglobal/laws.FnExactTwoEach", spec := "fnExactTwoEach", apart := false, narrowed := true }
def FnExactTwoEachUptoSaid : Prop := fnExactTwoEachUptoRow.holds Try.pinned (OpenSpec.upto fnExactTwoEachSpec)

/-- 'laws.FnExactQuatMul', WHERE WHAT IT READS IS OF BULK AT MOST 1048576: true; the input reads as it did. -/
def fnExactQuatMulUptoRow : OpenClaim := { program := "ytfhehcgefbknbaa", sum := "e97a588c4e4a8528bcb5b546ee4642b6cf75d80700f5079b5d06b298a6dfeab0", func := "loop.example/localglobal/laws.FnExactQuatMul", spec := "fnExactQuatMul", apart := false, narrowed := true }
def FnExactQuatMulUptoSaid : Prop := fnExactQuatMulUptoRow.holds Try.pinned (OpenSpec.upto fnExactQuatMulSpec)

/-- 'laws.FnExactFourEach', WHERE WHAT IT READS IS OF BULK AT MOST 1048576: true; the input reads as it did. -/
def fnExactFourEachUptoRow : OpenClaim := { program := "ytfhehcgefbknbaa", sum := "e97a588c4e4a8528bcb5b546ee4642b6cf75d80700f5079b5d06b298a6dfeab0", func := "loop.example/localglobal/laws.FnExactFourEach", spec := "fnExactFourEach", apart := false, narrowed := true }
def FnExactFourEachUptoSaid : Prop := fnExactFourEachUptoRow.holds Try.pinned (OpenSpec.upto fnExactFourEachSpec)

/-- 'laws.FnExactTwoIs', WHERE WHAT IT READS IS OF BULK AT MOST 1048576: true; the input reads as it did. -/
def fnExactTwoIsUptoRow : OpenClaim := { program := "ytfhehcgefbknbaa", sum := "e97a588c4e4a8528bcb5b546ee4642b6cf75d80700f5079b5d06b298a6dfeab0", func := "loop.example/localglobal/laws.FnExactTwoIs", spec := "fnExactTwoIs", apart := false, narrowed := true }
def FnExactTwoIsUptoSaid : Prop := fnExactTwoIsUptoRow.holds Try.pinned (OpenSpec.upto fnExactTwoIsSpec)

/-- 'laws.FnFourMany', WHERE WHAT IT READS IS OF BULK AT MOST 1048576: true; the input reads as it did. -/
def fnFourManyUptoRow : OpenClaim := { program := "ytfhehcgefbknbaa", sum := "e97a588c4e4a8528bcb5b546ee4642b6cf75d80700f5079b5d06b298a6dfeab0", func := "loop.example/localglobal/laws.FnFourMany", spec := "fnFourMany", apart := false, narrowed := true }
def FnFourManyUptoSaid : Prop := fnFourManyUptoRow.holds Try.pinned (OpenSpec.upto fnFourManySpec)

/-- 'laws.FnQuatNorm', WHERE WHAT IT READS IS OF BULK AT MOST 1048576: true; the input reads as it did. -/
def fnQuatNormUptoRow : OpenClaim := { program := "ytfhehcgefbknbaa", sum := "e97a588c4e4a8528bcb5b546ee4642b6cf75d80700f5079b5d06b298a6dfeab0", func := "loop.example/localglobal/laws.FnQuatNorm", spec := "fnQuatNorm", apart := false, narrowed := true }
def FnQuatNormUptoSaid : Prop := fnQuatNormUptoRow.holds Try.pinned (OpenSpec.upto fnQuatNormSpec)

/-- 'laws.FnQuatMul', WHERE WHAT IT READS IS OF BULK AT MOST 1048576: true; the input reads as it did. -/
def fnQuatMulUptoRow : OpenClaim := { program := "ytfhehcgefbknbaa", sum := "e97a588c4e4a8528bcb5b546ee4642b6cf75d80700f5079b5d06b298a6dfeab0", func := "loop.example/localglobal/laws.FnQuatMul", spec := "fnQuatMul", apart := false, narrowed := true }
def FnQuatMulUptoSaid : Prop := fnQuatMulUptoRow.holds Try.pinned (OpenSpec.upto fnQuatMulSpec)

/-- 'laws.FnFourEach', WHERE WHAT IT READS IS OF BULK AT MOST 1048576: true; the input reads as it did. -/
def fnFourEachUptoRow : OpenClaim := { program := "ytfhehcgefbknbaa", sum := "e97a588c4e4a8528bcb5b546ee4642b6cf75d80700f5079b5d06b298a6dfeab0", func := "loop.example/localglobal/laws.FnFourEach", spec := "fnFourEach", apart := false, narrowed := true }
def FnFourEachUptoSaid : Prop := fnFourEachUptoRow.holds Try.pinned (OpenSpec.upto fnFourEachSpec)

/-- 'laws.FnTwoMany', WHERE WHAT IT READS IS OF BULK AT MOST 1048576: true; the input reads as it did. -/
def fnTwoManyUptoRow : OpenClaim := { program := "ytfhehcgefbknbaa", sum := "e97a588c4e4a8528bcb5b546ee4642b6cf75d80700f5079b5d06b298a6dfeab0", func := "loop.example/localglobal/laws.FnTwoMany", spec := "fnTwoMany", apart := false, narrowed := true }
def FnTwoManyUptoSaid : Prop := fnTwoManyUptoRow.holds Try.pinned (OpenSpec.upto fnTwoManySpec)

/-- 'laws.FnExactQuatTurn', WHERE WHAT IT READS IS OF BULK AT MOST 1048576: true; the input reads as it did. -/
def fnExactQuatTurnUptoRow : OpenClaim := { program := "ytfhehcgefbknbaa", sum := "e97a588c4e4a8528bcb5b546ee4642b6cf75d80700f5079b5d06b298a6dfeab0", func := "loop.example/localglobal/laws.FnExactQuatTurn", spec := "fnExactQuatTurn", apart := false, narrowed := true }
def FnExactQuatTurnUptoSaid : Prop := fnExactQuatTurnUptoRow.holds Try.pinned (OpenSpec.upto fnExactQuatTurnSpec)

/-- 'laws.FnTurn', WHERE WHAT IT READS IS OF BULK AT MOST 1048576: true; the input reads as it did. -/
def fnTurnUptoRow : OpenClaim := { program := "ytfhehcgefbknbaa", sum := "e97a588c4e4a8528bcb5b546ee4642b6cf75d80700f5079b5d06b298a6dfeab0", func := "loop.example/localglobal/laws.FnTurn", spec := "fnTurn", apart := false, narrowed := true }
def FnTurnUptoSaid : Prop := fnTurnUptoRow.holds Try.pinned (OpenSpec.upto fnTurnSpec)

end Rows
end Go.Proofs.Ytfhehcgefbknbaa
