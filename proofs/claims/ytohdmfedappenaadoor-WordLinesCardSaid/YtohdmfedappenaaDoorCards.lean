/-
  DERIVED. GIVEN WITH THE SEED: THE CARDS: each row of YtohdmfedappenaaDoorRows.lean that lists a variable, with what it lists TIED to the program's text (the seventh form; the later family's looks); each row that meets fmt, with fmt's text TOLD by the authors' own Lean function (tested against real Go, not proved from fmt's source: count such statements apart). THE CARD IS WHAT COUNTS. Prove the row's statement (the work); the ties are given (YtohdmfedappenaaDoorTie.lean); close each card by the builder's one call (the guide's Derived/Test/ToyasCard.lean, 'card_holds'). Laid BY PROGRAM, IN A SANDBOX (cutbox-door.mjs). By AI agents, Wed Nov 11 2026. No macro, syntax, notation, axiom, sorry.
-/
import Derived.Test.YtohdmfedappenaaDoorRows
import GoSem.ClaimSeven
namespace Go.Proofs.YtohdmfedappenaaDoor
namespace Rows

/-- THE TIED CARD OF 'stipendlaw07.WordJoins'. -/
def wordJoinsCard : Claim7 := { stood := { row := wordJoinsRow, standIns := [], harness := (true, "35834eebf711b94d2db6b0ac74d462a8cb3632ca7d0bb2a4680948229be8eb93"), looks := true }, kinds := [], alts := [], laidByText := true, laidKinds := [.data, .data, .data, .data, .sentinel, .sentinel, .pinned], laidTests := true, laidLooks := .later }
def WordJoinsCardSaid : Prop := Claim7.holds Tryd.pinned (.plain (OpenSpec.ofChange wordJoinsSpec)) wordJoinsCard

/-- THE TIED CARD OF 'stipendlaw07.WordQuotes'. -/
def wordQuotesCard : Claim7 := { stood := { row := wordQuotesRow, standIns := [], harness := (true, "35834eebf711b94d2db6b0ac74d462a8cb3632ca7d0bb2a4680948229be8eb93"), looks := true }, kinds := [], alts := [], laidByText := true, laidKinds := [.data, .data, .data, .data, .sentinel, .sentinel, .pinned], laidTests := true, laidLooks := .later }
def WordQuotesCardSaid : Prop := Claim7.holds Tryd.pinned (.plain (OpenSpec.ofChange wordQuotesSpec)) wordQuotesCard

/-- THE TIED CARD OF 'stipendlaw07.WordInts'. -/
def wordIntsCard : Claim7 := { stood := { row := wordIntsRow, standIns := [], harness := (true, "35834eebf711b94d2db6b0ac74d462a8cb3632ca7d0bb2a4680948229be8eb93"), looks := true }, kinds := [], alts := [], laidByText := true, laidKinds := [.data, .data, .data, .data, .sentinel, .sentinel, .pinned], laidTests := true, laidLooks := .later }
def WordIntsCardSaid : Prop := Claim7.holds Tryd.pinned (.plain (OpenSpec.ofChange wordIntsSpec)) wordIntsCard

/-- THE TIED CARD OF 'stipendlaw07.WordNames'. -/
def wordNamesCard : Claim7 := { stood := { row := wordNamesRow, standIns := [], harness := (true, "35834eebf711b94d2db6b0ac74d462a8cb3632ca7d0bb2a4680948229be8eb93"), looks := true }, kinds := [], alts := [], laidByText := true, laidKinds := [.data, .data, .data, .data, .sentinel, .sentinel, .pinned], laidTests := true, laidLooks := .later }
def WordNamesCardSaid : Prop := Claim7.holds Tryd.pinned (.plain (OpenSpec.ofChange wordNamesSpec)) wordNamesCard

/-- THE TIED CARD OF 'stipendlaw07.WordLines'. -/
def wordLinesCard : Claim7 := { stood := { row := wordLinesRow, standIns := [], harness := (true, "35834eebf711b94d2db6b0ac74d462a8cb3632ca7d0bb2a4680948229be8eb93"), looks := true }, kinds := [], alts := [], laidByText := true, laidKinds := [.data, .data, .data, .data, .sentinel, .sentinel, .pinned], laidTests := true, laidLooks := .later }
def WordLinesCardSaid : Prop := Claim7.holds Tryd.pinned (.plain (OpenSpec.ofChange wordLinesSpec)) wordLinesCard

/-- THE SECOND FORM's CARD OF 'stipendlaw07.WordJoins'. -/
def wordJoinsUptoCard : Claim7 := { stood := { row := wordJoinsUptoRow, standIns := [], harness := (true, "35834eebf711b94d2db6b0ac74d462a8cb3632ca7d0bb2a4680948229be8eb93"), looks := true }, kinds := [], alts := [], laidByText := true, laidKinds := [.data, .data, .data, .data, .sentinel, .sentinel, .pinned], laidTests := true, laidLooks := .later }
def WordJoinsUptoCardSaid : Prop := Claim7.holds Tryd.pinned (.plain (OpenSpec.upto wordJoinsSpec)) wordJoinsUptoCard

/-- THE SECOND FORM's CARD OF 'stipendlaw07.WordQuotes'. -/
def wordQuotesUptoCard : Claim7 := { stood := { row := wordQuotesUptoRow, standIns := [], harness := (true, "35834eebf711b94d2db6b0ac74d462a8cb3632ca7d0bb2a4680948229be8eb93"), looks := true }, kinds := [], alts := [], laidByText := true, laidKinds := [.data, .data, .data, .data, .sentinel, .sentinel, .pinned], laidTests := true, laidLooks := .later }
def WordQuotesUptoCardSaid : Prop := Claim7.holds Tryd.pinned (.plain (OpenSpec.upto wordQuotesSpec)) wordQuotesUptoCard

/-- THE SECOND FORM's CARD OF 'stipendlaw07.WordInts'. -/
def wordIntsUptoCard : Claim7 := { stood := { row := wordIntsUptoRow, standIns := [], harness := (true, "35834eebf711b94d2db6b0ac74d462a8cb3632ca7d0bb2a4680948229be8eb93"), looks := true }, kinds := [], alts := [], laidByText := true, laidKinds := [.data, .data, .data, .data, .sentinel, .sentinel, .pinned], laidTests := true, laidLooks := .later }
def WordIntsUptoCardSaid : Prop := Claim7.holds Tryd.pinned (.plain (OpenSpec.upto wordIntsSpec)) wordIntsUptoCard

/-- THE SECOND FORM's CARD OF 'stipendlaw07.WordNames'. -/
def wordNamesUptoCard : Claim7 := { stood := { row := wordNamesUptoRow, standIns := [], harness := (true, "35834eebf711b94d2db6b0ac74d462a8cb3632ca7d0bb2a4680948229be8eb93"), looks := true }, kinds := [], alts := [], laidByText := true, laidKinds := [.data, .data, .data, .data, .sentinel, .sentinel, .pinned], laidTests := true, laidLooks := .later }
def WordNamesUptoCardSaid : Prop := Claim7.holds Tryd.pinned (.plain (OpenSpec.upto wordNamesSpec)) wordNamesUptoCard

/-- THE SECOND FORM's CARD OF 'stipendlaw07.WordLines'. -/
def wordLinesUptoCard : Claim7 := { stood := { row := wordLinesUptoRow, standIns := [], harness := (true, "35834eebf711b94d2db6b0ac74d462a8cb3632ca7d0bb2a4680948229be8eb93"), looks := true }, kinds := [], alts := [], laidByText := true, laidKinds := [.data, .data, .data, .data, .sentinel, .sentinel, .pinned], laidTests := true, laidLooks := .later }
def WordLinesUptoCardSaid : Prop := Claim7.holds Tryd.pinned (.plain (OpenSpec.upto wordLinesSpec)) wordLinesUptoCard
end Rows
end Go.Proofs.YtohdmfedappenaaDoor
