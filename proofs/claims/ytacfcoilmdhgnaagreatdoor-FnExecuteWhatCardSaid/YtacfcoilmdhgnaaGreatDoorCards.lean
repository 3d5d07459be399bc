/-
  DERIVED. GIVEN WITH THE SEED: THE CARDS: each row of YtacfcoilmdhgnaaGreatDoorRows.lean that lists a variable, with what it lists TIED to the program's text (the seventh form; the later family's looks); each row that meets fmt, with fmt's text TOLD by the authors' own Lean function (tested against real Go, not proved from fmt's source: count such statements apart). THE CARD IS WHAT COUNTS. Prove the row's statement (the work); the ties are given (YtacfcoilmdhgnaaGreatDoorTie.lean); close each card by the builder's one call (the guide's Derived/Test/ToyasCard.lean, 'card_holds'). Laid BY PROGRAM, IN A SANDBOX (cutbox-door.mjs). By AI agents, Wed Nov 11 2026. No macro, syntax, notation, axiom, sorry.
-/
import Derived.Test.YtacfcoilmdhgnaaGreatDoorRows
import GoSem.ClaimSeven
namespace Go.Proofs.YtacfcoilmdhgnaaGreatDoor
namespace Rows

/-- THE TIED CARD OF 'laws.FnExecuteNone'. -/
def fnExecuteNoneCard : Claim7 := { stood := { row := fnExecuteNoneRow, standIns := [], harness := (true, "0b8d937e8e5bfaad503ac8c8a77da6b62e58689681d8aafc8ad2ec9e3ed209f3"), looks := false }, kinds := [], alts := [], laidByText := true, laidKinds := [.data, .data, .data, .data, .pinned], laidTests := true, laidLooks := .later }
def FnExecuteNoneCardSaid : Prop := Claim7.holds Tryz.pinned (.plain (OpenSpec.ofChange fnExecuteNoneSpec)) fnExecuteNoneCard

/-- THE TIED CARD OF 'laws.FnExecuteTwice'. -/
def fnExecuteTwiceCard : Claim7 := { stood := { row := fnExecuteTwiceRow, standIns := [], harness := (true, "0b8d937e8e5bfaad503ac8c8a77da6b62e58689681d8aafc8ad2ec9e3ed209f3"), looks := false }, kinds := [], alts := [], laidByText := true, laidKinds := [.data, .data, .data, .data, .pinned], laidTests := true, laidLooks := .later }
def FnExecuteTwiceCardSaid : Prop := Claim7.holds Tryz.pinned (.plain (OpenSpec.ofChange fnExecuteTwiceSpec)) fnExecuteTwiceCard

/-- THE TIED CARD OF 'laws.FnExecuteWhat'. -/
def fnExecuteWhatCard : Claim7 := { stood := { row := fnExecuteWhatRow, standIns := [], harness := (true, "0b8d937e8e5bfaad503ac8c8a77da6b62e58689681d8aafc8ad2ec9e3ed209f3"), looks := false }, kinds := [], alts := [], laidByText := true, laidKinds := [.data, .data, .data, .data, .pinned], laidTests := true, laidLooks := .later }
def FnExecuteWhatCardSaid : Prop := Claim7.holds Tryz.pinned (.plain (OpenSpec.ofChange fnExecuteWhatSpec)) fnExecuteWhatCard

/-- THE TIED CARD OF 'laws.FnExecuteSquares'. -/
def fnExecuteSquaresCard : Claim7 := { stood := { row := fnExecuteSquaresRow, standIns := [], harness := (true, "0b8d937e8e5bfaad503ac8c8a77da6b62e58689681d8aafc8ad2ec9e3ed209f3"), looks := false }, kinds := [], alts := [], laidByText := true, laidKinds := [.data, .data, .data, .data, .pinned], laidTests := true, laidLooks := .later }
def FnExecuteSquaresCardSaid : Prop := Claim7.holds Tryz.pinned (.plain (OpenSpec.ofChange fnExecuteSquaresSpec)) fnExecuteSquaresCard

/-- THE TIED CARD OF 'laws.FnExecuteTimes'. -/
def fnExecuteTimesCard : Claim7 := { stood := { row := fnExecuteTimesRow, standIns := [], harness := (true, "0b8d937e8e5bfaad503ac8c8a77da6b62e58689681d8aafc8ad2ec9e3ed209f3"), looks := false }, kinds := [], alts := [], laidByText := true, laidKinds := [.data, .data, .data, .data, .pinned], laidTests := true, laidLooks := .later }
def FnExecuteTimesCardSaid : Prop := Claim7.holds Tryz.pinned (.plain (OpenSpec.ofChange fnExecuteTimesSpec)) fnExecuteTimesCard

/-- THE TIED CARD OF 'laws.FnExecuteSymbol'. -/
def fnExecuteSymbolCard : Claim7 := { stood := { row := fnExecuteSymbolRow, standIns := [], harness := (true, "0b8d937e8e5bfaad503ac8c8a77da6b62e58689681d8aafc8ad2ec9e3ed209f3"), looks := false }, kinds := [], alts := [], laidByText := true, laidKinds := [.data, .data, .data, .data, .pinned], laidTests := true, laidLooks := .later }
def FnExecuteSymbolCardSaid : Prop := Claim7.holds Tryz.pinned (.plain (OpenSpec.ofChange fnExecuteSymbolSpec)) fnExecuteSymbolCard

/-- THE TIED CARD OF 'laws.FnExecuteAt'. -/
def fnExecuteAtCard : Claim7 := { stood := { row := fnExecuteAtRow, standIns := [], harness := (true, "0b8d937e8e5bfaad503ac8c8a77da6b62e58689681d8aafc8ad2ec9e3ed209f3"), looks := false }, kinds := [], alts := [], laidByText := true, laidKinds := [.data, .data, .data, .data, .pinned], laidTests := true, laidLooks := .later }
def FnExecuteAtCardSaid : Prop := Claim7.holds Tryz.pinned (.plain (OpenSpec.ofChange fnExecuteAtSpec)) fnExecuteAtCard

/-- THE TIED CARD OF 'laws.FnExecuteZero'. -/
def fnExecuteZeroCard : Claim7 := { stood := { row := fnExecuteZeroRow, standIns := [], harness := (true, "0b8d937e8e5bfaad503ac8c8a77da6b62e58689681d8aafc8ad2ec9e3ed209f3"), looks := false }, kinds := [], alts := [], laidByText := true, laidKinds := [.data, .data, .data, .data, .pinned], laidTests := true, laidLooks := .later }
def FnExecuteZeroCardSaid : Prop := Claim7.holds Tryz.pinned (.plain (OpenSpec.ofChange fnExecuteZeroSpec)) fnExecuteZeroCard

/-- THE TIED CARD OF 'laws.FnExecuteValue'. -/
def fnExecuteValueCard : Claim7 := { stood := { row := fnExecuteValueRow, standIns := [], harness := (true, "0b8d937e8e5bfaad503ac8c8a77da6b62e58689681d8aafc8ad2ec9e3ed209f3"), looks := false }, kinds := [], alts := [], laidByText := true, laidKinds := [.data, .data, .data, .data, .pinned], laidTests := true, laidLooks := .later }
def FnExecuteValueCardSaid : Prop := Claim7.holds Tryz.pinned (.plain (OpenSpec.ofChange fnExecuteValueSpec)) fnExecuteValueCard

/-- THE TIED CARD OF 'laws.FnExactExecute'. -/
def fnExactExecuteCard : Claim7 := { stood := { row := fnExactExecuteRow, standIns := [], harness := (true, "0b8d937e8e5bfaad503ac8c8a77da6b62e58689681d8aafc8ad2ec9e3ed209f3"), looks := false }, kinds := [], alts := [], laidByText := true, laidKinds := [.data, .data, .data, .data, .pinned], laidTests := true, laidLooks := .later }
def FnExactExecuteCardSaid : Prop := Claim7.holds Tryz.pinned (.plain (OpenSpec.ofChange fnExactExecuteSpec)) fnExactExecuteCard

/-- THE SECOND FORM's CARD OF 'laws.FnExecuteNone'. -/
def fnExecuteNoneUptoCard : Claim7 := { stood := { row := fnExecuteNoneUptoRow, standIns := [], harness := (true, "0b8d937e8e5bfaad503ac8c8a77da6b62e58689681d8aafc8ad2ec9e3ed209f3"), looks := false }, kinds := [], alts := [], laidByText := true, laidKinds := [.data, .data, .data, .data, .pinned], laidTests := true, laidLooks := .later }
def FnExecuteNoneUptoCardSaid : Prop := Claim7.holds Tryz.pinned (.plain (OpenSpec.upto fnExecuteNoneSpec)) fnExecuteNoneUptoCard

/-- THE SECOND FORM's CARD OF 'laws.FnExecuteTwice'. -/
def fnExecuteTwiceUptoCard : Claim7 := { stood := { row := fnExecuteTwiceUptoRow, standIns := [], harness := (true, "0b8d937e8e5bfaad503ac8c8a77da6b62e58689681d8aafc8ad2ec9e3ed209f3"), looks := false }, kinds := [], alts := [], laidByText := true, laidKinds := [.data, .data, .data, .data, .pinned], laidTests := true, laidLooks := .later }
def FnExecuteTwiceUptoCardSaid : Prop := Claim7.holds Tryz.pinned (.plain (OpenSpec.upto fnExecuteTwiceSpec)) fnExecuteTwiceUptoCard

/-- THE SECOND FORM's CARD OF 'laws.FnExecuteWhat'. -/
def fnExecuteWhatUptoCard : Claim7 := { stood := { row := fnExecuteWhatUptoRow, standIns := [], harness := (true, "0b8d937e8e5bfaad503ac8c8a77da6b62e58689681d8aafc8ad2ec9e3ed209f3"), looks := false }, kinds := [], alts := [], laidByText := true, laidKinds := [.data, .data, .data, .data, .pinned], laidTests := true, laidLooks := .later }
def FnExecuteWhatUptoCardSaid : Prop := Claim7.holds Tryz.pinned (.plain (OpenSpec.upto fnExecuteWhatSpec)) fnExecuteWhatUptoCard

/-- THE SECOND FORM's CARD OF 'laws.FnExecuteSquares'. -/
def fnExecuteSquaresUptoCard : Claim7 := { stood := { row := fnExecuteSquaresUptoRow, standIns := [], harness := (true, "0b8d937e8e5bfaad503ac8c8a77da6b62e58689681d8aafc8ad2ec9e3ed209f3"), looks := false }, kinds := [], alts := [], laidByText := true, laidKinds := [.data, .data, .data, .data, .pinned], laidTests := true, laidLooks := .later }
def FnExecuteSquaresUptoCardSaid : Prop := Claim7.holds Tryz.pinned (.plain (OpenSpec.upto fnExecuteSquaresSpec)) fnExecuteSquaresUptoCard

/-- THE SECOND FORM's CARD OF 'laws.FnExecuteTimes'. -/
def fnExecuteTimesUptoCard : Claim7 := { stood := { row := fnExecuteTimesUptoRow, standIns := [], harness := (true, "0b8d937e8e5bfaad503ac8c8a77da6b62e58689681d8aafc8ad2ec9e3ed209f3"), looks := false }, kinds := [], alts := [], laidByText := true, laidKinds := [.data, .data, .data, .data, .pinned], laidTests := true, laidLooks := .later }
def FnExecuteTimesUptoCardSaid : Prop := Claim7.holds Tryz.pinned (.plain (OpenSpec.upto fnExecuteTimesSpec)) fnExecuteTimesUptoCard

/-- THE SECOND FORM's CARD OF 'laws.FnExecuteSymbol'. -/
def fnExecuteSymbolUptoCard : Claim7 := { stood := { row := fnExecuteSymbolUptoRow, standIns := [], harness := (true, "0b8d937e8e5bfaad503ac8c8a77da6b62e58689681d8aafc8ad2ec9e3ed209f3"), looks := false }, kinds := [], alts := [], laidByText := true, laidKinds := [.data, .data, .data, .data, .pinned], laidTests := true, laidLooks := .later }
def FnExecuteSymbolUptoCardSaid : Prop := Claim7.holds Tryz.pinned (.plain (OpenSpec.upto fnExecuteSymbolSpec)) fnExecuteSymbolUptoCard

/-- THE SECOND FORM's CARD OF 'laws.FnExecuteAt'. -/
def fnExecuteAtUptoCard : Claim7 := { stood := { row := fnExecuteAtUptoRow, standIns := [], harness := (true, "0b8d937e8e5bfaad503ac8c8a77da6b62e58689681d8aafc8ad2ec9e3ed209f3"), looks := false }, kinds := [], alts := [], laidByText := true, laidKinds := [.data, .data, .data, .data, .pinned], laidTests := true, laidLooks := .later }
def FnExecuteAtUptoCardSaid : Prop := Claim7.holds Tryz.pinned (.plain (OpenSpec.upto fnExecuteAtSpec)) fnExecuteAtUptoCard

/-- THE SECOND FORM's CARD OF 'laws.FnExecuteZero'. -/
def fnExecuteZeroUptoCard : Claim7 := { stood := { row := fnExecuteZeroUptoRow, standIns := [], harness := (true, "0b8d937e8e5bfaad503ac8c8a77da6b62e58689681d8aafc8ad2ec9e3ed209f3"), looks := false }, kinds := [], alts := [], laidByText := true, laidKinds := [.data, .data, .data, .data, .pinned], laidTests := true, laidLooks := .later }
def FnExecuteZeroUptoCardSaid : Prop := Claim7.holds Tryz.pinned (.plain (OpenSpec.upto fnExecuteZeroSpec)) fnExecuteZeroUptoCard

/-- THE SECOND FORM's CARD OF 'laws.FnExecuteValue'. -/
def fnExecuteValueUptoCard : Claim7 := { stood := { row := fnExecuteValueUptoRow, standIns := [], harness := (true, "0b8d937e8e5bfaad503ac8c8a77da6b62e58689681d8aafc8ad2ec9e3ed209f3"), looks := false }, kinds := [], alts := [], laidByText := true, laidKinds := [.data, .data, .data, .data, .pinned], laidTests := true, laidLooks := .later }
def FnExecuteValueUptoCardSaid : Prop := Claim7.holds Tryz.pinned (.plain (OpenSpec.upto fnExecuteValueSpec)) fnExecuteValueUptoCard

/-- THE SECOND FORM's CARD OF 'laws.FnExactExecute'. -/
def fnExactExecuteUptoCard : Claim7 := { stood := { row := fnExactExecuteUptoRow, standIns := [], harness := (true, "0b8d937e8e5bfaad503ac8c8a77da6b62e58689681d8aafc8ad2ec9e3ed209f3"), looks := false }, kinds := [], alts := [], laidByText := true, laidKinds := [.data, .data, .data, .data, .pinned], laidTests := true, laidLooks := .later }
def FnExactExecuteUptoCardSaid : Prop := Claim7.holds Tryz.pinned (.plain (OpenSpec.upto fnExactExecuteSpec)) fnExactExecuteUptoCard
end Rows
end Go.Proofs.YtacfcoilmdhgnaaGreatDoor
