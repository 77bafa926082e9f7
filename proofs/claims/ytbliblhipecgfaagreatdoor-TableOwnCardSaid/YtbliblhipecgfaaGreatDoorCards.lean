/-
  DERIVED. GIVEN WITH THE SEED: THE CARDS: each row of YtbliblhipecgfaaGreatDoorRows.lean that lists a variable, with what it lists TIED to the program's text (the seventh form; the later family's looks); each row that meets fmt, with fmt's text TOLD by the authors' own Lean function (tested against real Go, not proved from fmt's source: count such statements apart). THE CARD IS WHAT COUNTS. Prove the row's statement (the work); the ties are given (YtbliblhipecgfaaGreatDoorTie.lean); close each card by the builder's one call (the guide's Derived/Test/ToyasCard.lean, 'card_holds'). Laid BY PROGRAM, IN A SANDBOX (cutbox-door.mjs). By AI agents, Wed Nov 11 2026. No macro, syntax, notation, axiom, sorry.
-/
import Derived.Test.YtbliblhipecgfaaGreatDoorRows
import GoSem.ClaimSeven
namespace Go.Proofs.YtbliblhipecgfaaGreatDoor
namespace Rows

/-- THE TIED CARD OF 'stipendlaw09.TableChecks'. -/
def tableChecksCard : Claim7 := { stood := { row := tableChecksRow, standIns := [], harness := (true, "d673aefc8b92d4e5dce426353b9bb8ea236a6b5c3964e3c37e3138aac1a5da56"), looks := true }, kinds := [], alts := [], laidByText := true, laidKinds := [.data, .data, .data, .data, .sentinel, .sentinel, .listed, .data, .pinned], laidTests := true, laidLooks := .later }
def TableChecksCardSaid : Prop := Claim7.holds Tryz.pinned (.plain (OpenSpec.ofChange tableChecksSpec)) tableChecksCard

/-- THE TIED CARD OF 'stipendlaw09.TableModes'. -/
def tableModesCard : Claim7 := { stood := { row := tableModesRow, standIns := [], harness := (true, "d673aefc8b92d4e5dce426353b9bb8ea236a6b5c3964e3c37e3138aac1a5da56"), looks := true }, kinds := [], alts := [], laidByText := true, laidKinds := [.data, .data, .data, .data, .sentinel, .sentinel, .listed, .data, .pinned], laidTests := true, laidLooks := .later }
def TableModesCardSaid : Prop := Claim7.holds Tryz.pinned (.plain (OpenSpec.ofChange tableModesSpec)) tableModesCard

/-- THE TIED CARD OF 'stipendlaw09.TableDiffs'. -/
def tableDiffsCard : Claim7 := { stood := { row := tableDiffsRow, standIns := [], harness := (true, "d673aefc8b92d4e5dce426353b9bb8ea236a6b5c3964e3c37e3138aac1a5da56"), looks := true }, kinds := [], alts := [], laidByText := true, laidKinds := [.data, .data, .data, .data, .sentinel, .sentinel, .listed, .data, .pinned], laidTests := true, laidLooks := .later }
def TableDiffsCardSaid : Prop := Claim7.holds Tryz.pinned (.plain (OpenSpec.ofChange tableDiffsSpec)) tableDiffsCard

/-- THE TIED CARD OF 'stipendlaw09.TableCodes'. -/
def tableCodesCard : Claim7 := { stood := { row := tableCodesRow, standIns := [], harness := (true, "d673aefc8b92d4e5dce426353b9bb8ea236a6b5c3964e3c37e3138aac1a5da56"), looks := true }, kinds := [], alts := [], laidByText := true, laidKinds := [.data, .data, .data, .data, .sentinel, .sentinel, .listed, .data, .pinned], laidTests := true, laidLooks := .later }
def TableCodesCardSaid : Prop := Claim7.holds Tryz.pinned (.plain (OpenSpec.ofChange tableCodesSpec)) tableCodesCard

/-- THE TIED CARD OF 'stipendlaw09.TableLines'. -/
def tableLinesCard : Claim7 := { stood := { row := tableLinesRow, standIns := [], harness := (true, "d673aefc8b92d4e5dce426353b9bb8ea236a6b5c3964e3c37e3138aac1a5da56"), looks := true }, kinds := [], alts := [], laidByText := true, laidKinds := [.data, .data, .data, .data, .sentinel, .sentinel, .listed, .data, .pinned], laidTests := true, laidLooks := .later }
def TableLinesCardSaid : Prop := Claim7.holds Tryz.pinned (.plain (OpenSpec.ofChange tableLinesSpec)) tableLinesCard

/-- THE TIED CARD OF 'stipendlaw09.TablePuts'. -/
def tablePutsCard : Claim7 := { stood := { row := tablePutsRow, standIns := [], harness := (true, "d673aefc8b92d4e5dce426353b9bb8ea236a6b5c3964e3c37e3138aac1a5da56"), looks := true }, kinds := [], alts := [], laidByText := true, laidKinds := [.data, .data, .data, .data, .sentinel, .sentinel, .listed, .data, .pinned], laidTests := true, laidLooks := .later }
def TablePutsCardSaid : Prop := Claim7.holds Tryz.pinned (.plain (OpenSpec.ofChange tablePutsSpec)) tablePutsCard

/-- THE TIED CARD OF 'stipendlaw09.TableOwn'. -/
def tableOwnCard : Claim7 := { stood := { row := tableOwnRow, standIns := [], harness := (true, "d673aefc8b92d4e5dce426353b9bb8ea236a6b5c3964e3c37e3138aac1a5da56"), looks := true }, kinds := [], alts := [], laidByText := true, laidKinds := [.data, .data, .data, .data, .sentinel, .sentinel, .listed, .data, .pinned], laidTests := true, laidLooks := .later }
def TableOwnCardSaid : Prop := Claim7.holds Tryz.pinned (.plain (OpenSpec.ofChange tableOwnSpec)) tableOwnCard

/-- THE TIED CARD OF 'stipendlaw09.TableReads'. -/
def tableReadsCard : Claim7 := { stood := { row := tableReadsRow, standIns := [], harness := (true, "d673aefc8b92d4e5dce426353b9bb8ea236a6b5c3964e3c37e3138aac1a5da56"), looks := true }, kinds := [], alts := [], laidByText := true, laidKinds := [.data, .data, .data, .data, .sentinel, .sentinel, .listed, .data, .pinned], laidTests := true, laidLooks := .later }
def TableReadsCardSaid : Prop := Claim7.holds Tryz.pinned (.plain (OpenSpec.ofChange tableReadsSpec)) tableReadsCard

/-- THE SECOND FORM's CARD OF 'stipendlaw09.TableChecks'. -/
def tableChecksUptoCard : Claim7 := { stood := { row := tableChecksUptoRow, standIns := [], harness := (true, "d673aefc8b92d4e5dce426353b9bb8ea236a6b5c3964e3c37e3138aac1a5da56"), looks := true }, kinds := [], alts := [], laidByText := true, laidKinds := [.data, .data, .data, .data, .sentinel, .sentinel, .listed, .data, .pinned], laidTests := true, laidLooks := .later }
def TableChecksUptoCardSaid : Prop := Claim7.holds Tryz.pinned (.plain (OpenSpec.upto tableChecksSpec)) tableChecksUptoCard

/-- THE SECOND FORM's CARD OF 'stipendlaw09.TableModes'. -/
def tableModesUptoCard : Claim7 := { stood := { row := tableModesUptoRow, standIns := [], harness := (true, "d673aefc8b92d4e5dce426353b9bb8ea236a6b5c3964e3c37e3138aac1a5da56"), looks := true }, kinds := [], alts := [], laidByText := true, laidKinds := [.data, .data, .data, .data, .sentinel, .sentinel, .listed, .data, .pinned], laidTests := true, laidLooks := .later }
def TableModesUptoCardSaid : Prop := Claim7.holds Tryz.pinned (.plain (OpenSpec.upto tableModesSpec)) tableModesUptoCard

/-- THE SECOND FORM's CARD OF 'stipendlaw09.TableDiffs'. -/
def tableDiffsUptoCard : Claim7 := { stood := { row := tableDiffsUptoRow, standIns := [], harness := (true, "d673aefc8b92d4e5dce426353b9bb8ea236a6b5c3964e3c37e3138aac1a5da56"), looks := true }, kinds := [], alts := [], laidByText := true, laidKinds := [.data, .data, .data, .data, .sentinel, .sentinel, .listed, .data, .pinned], laidTests := true, laidLooks := .later }
def TableDiffsUptoCardSaid : Prop := Claim7.holds Tryz.pinned (.plain (OpenSpec.upto tableDiffsSpec)) tableDiffsUptoCard

/-- THE SECOND FORM's CARD OF 'stipendlaw09.TableCodes'. -/
def tableCodesUptoCard : Claim7 := { stood := { row := tableCodesUptoRow, standIns := [], harness := (true, "d673aefc8b92d4e5dce426353b9bb8ea236a6b5c3964e3c37e3138aac1a5da56"), looks := true }, kinds := [], alts := [], laidByText := true, laidKinds := [.data, .data, .data, .data, .sentinel, .sentinel, .listed, .data, .pinned], laidTests := true, laidLooks := .later }
def TableCodesUptoCardSaid : Prop := Claim7.holds Tryz.pinned (.plain (OpenSpec.upto tableCodesSpec)) tableCodesUptoCard

/-- THE SECOND FORM's CARD OF 'stipendlaw09.TableLines'. -/
def tableLinesUptoCard : Claim7 := { stood := { row := tableLinesUptoRow, standIns := [], harness := (true, "d673aefc8b92d4e5dce426353b9bb8ea236a6b5c3964e3c37e3138aac1a5da56"), looks := true }, kinds := [], alts := [], laidByText := true, laidKinds := [.data, .data, .data, .data, .sentinel, .sentinel, .listed, .data, .pinned], laidTests := true, laidLooks := .later }
def TableLinesUptoCardSaid : Prop := Claim7.holds Tryz.pinned (.plain (OpenSpec.upto tableLinesSpec)) tableLinesUptoCard

/-- THE SECOND FORM's CARD OF 'stipendlaw09.TablePuts'. -/
def tablePutsUptoCard : Claim7 := { stood := { row := tablePutsUptoRow, standIns := [], harness := (true, "d673aefc8b92d4e5dce426353b9bb8ea236a6b5c3964e3c37e3138aac1a5da56"), looks := true }, kinds := [], alts := [], laidByText := true, laidKinds := [.data, .data, .data, .data, .sentinel, .sentinel, .listed, .data, .pinned], laidTests := true, laidLooks := .later }
def TablePutsUptoCardSaid : Prop := Claim7.holds Tryz.pinned (.plain (OpenSpec.upto tablePutsSpec)) tablePutsUptoCard

/-- THE SECOND FORM's CARD OF 'stipendlaw09.TableOwn'. -/
def tableOwnUptoCard : Claim7 := { stood := { row := tableOwnUptoRow, standIns := [], harness := (true, "d673aefc8b92d4e5dce426353b9bb8ea236a6b5c3964e3c37e3138aac1a5da56"), looks := true }, kinds := [], alts := [], laidByText := true, laidKinds := [.data, .data, .data, .data, .sentinel, .sentinel, .listed, .data, .pinned], laidTests := true, laidLooks := .later }
def TableOwnUptoCardSaid : Prop := Claim7.holds Tryz.pinned (.plain (OpenSpec.upto tableOwnSpec)) tableOwnUptoCard

/-- THE SECOND FORM's CARD OF 'stipendlaw09.TableReads'. -/
def tableReadsUptoCard : Claim7 := { stood := { row := tableReadsUptoRow, standIns := [], harness := (true, "d673aefc8b92d4e5dce426353b9bb8ea236a6b5c3964e3c37e3138aac1a5da56"), looks := true }, kinds := [], alts := [], laidByText := true, laidKinds := [.data, .data, .data, .data, .sentinel, .sentinel, .listed, .data, .pinned], laidTests := true, laidLooks := .later }
def TableReadsUptoCardSaid : Prop := Claim7.holds Tryz.pinned (.plain (OpenSpec.upto tableReadsSpec)) tableReadsUptoCard
end Rows
end Go.Proofs.YtbliblhipecgfaaGreatDoor
