/-
  DERIVED. GIVEN WITH THE SEED: THE CARDS: each row of YtfhbnojhmeodiaaDoorRows.lean that lists a variable, with what it lists TIED to the program's text (the seventh form; the later family's looks); each row that meets fmt, with fmt's text TOLD by the authors' own Lean function (tested against real Go, not proved from fmt's source: count such statements apart). THE CARD IS WHAT COUNTS. Prove the row's statement (the work); the ties are given (YtfhbnojhmeodiaaDoorTie.lean); close each card by the builder's one call (the guide's Derived/Test/ToyasCard.lean, 'card_holds'). Laid BY PROGRAM, IN A SANDBOX (cutbox-door.mjs). By AI agents, Wed Nov 11 2026. No macro, syntax, notation, axiom, sorry.
-/
import Derived.Test.YtfhbnojhmeodiaaDoorRows
import GoSem.ClaimSeven
namespace Go.Proofs.YtfhbnojhmeodiaaDoor
namespace Rows

/-- THE TIED CARD OF 'stipendlaw18.AttachBooks'. -/
def attachBooksCard : Claim7 := { stood := { row := attachBooksRow, standIns := [], harness := (true, "7db31d60234ac2c400d0105300348e17afe091c4c0c4d62afe6ae4d3006ad65d"), looks := true }, kinds := [], alts := [], laidByText := true, laidKinds := [.data, .data, .data], laidTests := true, laidLooks := .later }
def AttachBooksCardSaid : Prop := Claim7.holds Tryd.pinned (.plain (OpenSpec.ofChange attachBooksSpec)) attachBooksCard

/-- THE TIED CARD OF 'stipendlaw17.OrderBooks'. -/
def orderBooksCard : Claim7 := { stood := { row := orderBooksRow, standIns := [], harness := (true, "7db31d60234ac2c400d0105300348e17afe091c4c0c4d62afe6ae4d3006ad65d"), looks := true }, kinds := [], alts := [], laidByText := true, laidKinds := [.data, .data, .data, .sentinel, .sentinel], laidTests := true, laidLooks := .later }
def OrderBooksCardSaid : Prop := Claim7.holds Tryd.pinned (.plain (OpenSpec.ofChange orderBooksSpec)) orderBooksCard

/-- THE TIED CARD OF 'stipendlaw17.OrderTook'. -/
def orderTookCard : Claim7 := { stood := { row := orderTookRow, standIns := [], harness := (true, "7db31d60234ac2c400d0105300348e17afe091c4c0c4d62afe6ae4d3006ad65d"), looks := true }, kinds := [], alts := [], laidByText := true, laidKinds := [.data, .data, .data, .sentinel, .sentinel], laidTests := true, laidLooks := .later }
def OrderTookCardSaid : Prop := Claim7.holds Tryd.pinned (.plain (OpenSpec.ofChange orderTookSpec)) orderTookCard

/-- THE TIED CARD OF 'stipendlaw17.OrderChecks'. -/
def orderChecksCard : Claim7 := { stood := { row := orderChecksRow, standIns := [], harness := (true, "7db31d60234ac2c400d0105300348e17afe091c4c0c4d62afe6ae4d3006ad65d"), looks := true }, kinds := [], alts := [], laidByText := true, laidKinds := [.data, .data, .data, .sentinel, .sentinel], laidTests := true, laidLooks := .later }
def OrderChecksCardSaid : Prop := Claim7.holds Tryd.pinned (.plain (OpenSpec.ofChange orderChecksSpec)) orderChecksCard

/-- THE TIED CARD OF 'stipendlaw17.OrderSweeps'. -/
def orderSweepsCard : Claim7 := { stood := { row := orderSweepsRow, standIns := [], harness := (true, "7db31d60234ac2c400d0105300348e17afe091c4c0c4d62afe6ae4d3006ad65d"), looks := true }, kinds := [], alts := [], laidByText := true, laidKinds := [.data, .data, .data, .sentinel, .sentinel], laidTests := true, laidLooks := .later }
def OrderSweepsCardSaid : Prop := Claim7.holds Tryd.pinned (.plain (OpenSpec.ofChange orderSweepsSpec)) orderSweepsCard

/-- THE SECOND FORM's CARD OF 'stipendlaw18.AttachBooks'. -/
def attachBooksUptoCard : Claim7 := { stood := { row := attachBooksUptoRow, standIns := [], harness := (true, "7db31d60234ac2c400d0105300348e17afe091c4c0c4d62afe6ae4d3006ad65d"), looks := true }, kinds := [], alts := [], laidByText := true, laidKinds := [.data, .data, .data], laidTests := true, laidLooks := .later }
def AttachBooksUptoCardSaid : Prop := Claim7.holds Tryd.pinned (.plain (OpenSpec.upto attachBooksSpec)) attachBooksUptoCard

/-- THE SECOND FORM's CARD OF 'stipendlaw17.OrderBooks'. -/
def orderBooksUptoCard : Claim7 := { stood := { row := orderBooksUptoRow, standIns := [], harness := (true, "7db31d60234ac2c400d0105300348e17afe091c4c0c4d62afe6ae4d3006ad65d"), looks := true }, kinds := [], alts := [], laidByText := true, laidKinds := [.data, .data, .data, .sentinel, .sentinel], laidTests := true, laidLooks := .later }
def OrderBooksUptoCardSaid : Prop := Claim7.holds Tryd.pinned (.plain (OpenSpec.upto orderBooksSpec)) orderBooksUptoCard

/-- THE SECOND FORM's CARD OF 'stipendlaw17.OrderTook'. -/
def orderTookUptoCard : Claim7 := { stood := { row := orderTookUptoRow, standIns := [], harness := (true, "7db31d60234ac2c400d0105300348e17afe091c4c0c4d62afe6ae4d3006ad65d"), looks := true }, kinds := [], alts := [], laidByText := true, laidKinds := [.data, .data, .data, .sentinel, .sentinel], laidTests := true, laidLooks := .later }
def OrderTookUptoCardSaid : Prop := Claim7.holds Tryd.pinned (.plain (OpenSpec.upto orderTookSpec)) orderTookUptoCard

/-- THE SECOND FORM's CARD OF 'stipendlaw17.OrderChecks'. -/
def orderChecksUptoCard : Claim7 := { stood := { row := orderChecksUptoRow, standIns := [], harness := (true, "7db31d60234ac2c400d0105300348e17afe091c4c0c4d62afe6ae4d3006ad65d"), looks := true }, kinds := [], alts := [], laidByText := true, laidKinds := [.data, .data, .data, .sentinel, .sentinel], laidTests := true, laidLooks := .later }
def OrderChecksUptoCardSaid : Prop := Claim7.holds Tryd.pinned (.plain (OpenSpec.upto orderChecksSpec)) orderChecksUptoCard

/-- THE SECOND FORM's CARD OF 'stipendlaw17.OrderSweeps'. -/
def orderSweepsUptoCard : Claim7 := { stood := { row := orderSweepsUptoRow, standIns := [], harness := (true, "7db31d60234ac2c400d0105300348e17afe091c4c0c4d62afe6ae4d3006ad65d"), looks := true }, kinds := [], alts := [], laidByText := true, laidKinds := [.data, .data, .data, .sentinel, .sentinel], laidTests := true, laidLooks := .later }
def OrderSweepsUptoCardSaid : Prop := Claim7.holds Tryd.pinned (.plain (OpenSpec.upto orderSweepsSpec)) orderSweepsUptoCard
end Rows
end Go.Proofs.YtfhbnojhmeodiaaDoor
