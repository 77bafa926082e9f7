/-
  DERIVED. GIVEN WITH THE SEED: THE CARDS: each row of YtcngmajkkhipoaaGreatDoorRows.lean that lists a variable, with what it lists TIED to the program's text (the seventh form; the later family's looks); each row that meets fmt, with fmt's text TOLD by the authors' own Lean function (tested against real Go, not proved from fmt's source: count such statements apart). THE CARD IS WHAT COUNTS. Prove the row's statement (the work); the ties are given (YtcngmajkkhipoaaGreatDoorTie.lean); close each card by the builder's one call (the guide's Derived/Test/ToyasCard.lean, 'card_holds'). Laid BY PROGRAM, IN A SANDBOX (cutbox-door.mjs). By AI agents, Wed Nov 11 2026. No macro, syntax, notation, axiom, sorry.
-/
import Derived.Test.YtcngmajkkhipoaaGreatDoorRows
import GoSem.ClaimSeven
namespace Go.Proofs.YtcngmajkkhipoaaGreatDoor
namespace Rows

/-- THE TIED CARD OF 'stipendtop.WholeTables'. -/
def wholeTablesCard : Claim7 := { stood := { row := wholeTablesRow, standIns := [], harness := (true, "9a5b579ed88a5d11d405cc1f79d981cfd3ec0d05fd896d487f211b21300683a0"), looks := true }, kinds := [], alts := [], laidByText := true, laidKinds := [.data, .data, .data, .data, .sentinel, .sentinel, .listed, .data, .pinned], laidTests := true, laidLooks := .later }
def WholeTablesCardSaid : Prop := Claim7.holds Tryz.pinned (.plain (OpenSpec.ofChange wholeTablesSpec)) wholeTablesCard

/-- THE SECOND FORM's CARD OF 'stipendtop.WholeTables'. -/
def wholeTablesUptoCard : Claim7 := { stood := { row := wholeTablesUptoRow, standIns := [], harness := (true, "9a5b579ed88a5d11d405cc1f79d981cfd3ec0d05fd896d487f211b21300683a0"), looks := true }, kinds := [], alts := [], laidByText := true, laidKinds := [.data, .data, .data, .data, .sentinel, .sentinel, .listed, .data, .pinned], laidTests := true, laidLooks := .later }
def WholeTablesUptoCardSaid : Prop := Claim7.holds Tryz.pinned (.plain (OpenSpec.upto wholeTablesSpec)) wholeTablesUptoCard
end Rows
end Go.Proofs.YtcngmajkkhipoaaGreatDoor
