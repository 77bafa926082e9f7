/-
  No cell of these rows narrows 'for every input' (looked for: loops, veiled, ifaces, maps, wideKeys, modest, calm, conditions, laid).
  DERIVED. THE GIVEN ROWS OF THIS SEAT. 7 by the template 'for every input the law returns true; each argument reads behind the call as it read before'; 0 by the template 'total and deterministic' (their statements: YtlfeppbhicmeoaaTotals.lean).
  GIVEN WITH THE SEED: the statements are not yours to turn. If you find one false, say at which input.
  Laid BY PROGRAM, IN A SANDBOX (cutbox-rows.mjs): the forced cells as the released guide's own fill.sh prints them over the translation cfb96c3b28e18542… (all of the seat's roots in one cut). By AI agents, Wed Nov 11 2026. No macro, syntax, notation, axiom, sorry.
-/
import Derived.Test.YtlfeppbhicmeoaaChecked
import GoSem.Claim
import GoSem.ClaimJoined
import GoSem.ClaimMapViews
import Derived.JoinedTies
import Derived.KernelRfl
namespace Go.Proofs.Ytlfeppbhicmeoaa
/- THE CELL 'sum', in the pinned program and in every row, IS THE sha256 OF THE DUMP (.gsa) THAT YtlfeppbhicmeoaaProg.lean LOADS. Nothing in Lean hashes anything: it is a label: what it is worth is what the hold of that sum in a sandbox is worth. -/
noncomputable def Try.pinned : Pinned := { name := "ytlfeppbhicmeoaa", sum := "cfb96c3b28e18542bc7d3298dd06422d9b76fb52893b1b0e0afdb7b14e845f8a", checked := Try.checked }
namespace Rows
def none {H : Type} : Left H := { results := [], args := [] }

/-- 'stipendtop.WholeTax': WHATEVER THE INPUT: true; the input reads as it did. -/
def wholeTaxSpec : ChangeSpec := { name := "wholeTax", fn := fun _ => fun
  | [d1, d2, d3] => { results := [.lit (.bool true)], args := [d1, d2, d3] }
  | _ => none }
def wholeTaxRow : OpenClaim := { program := "ytlfeppbhicmeoaa", sum := "cfb96c3b28e18542bc7d3298dd06422d9b76fb52893b1b0e0afdb7b14e845f8a", func := "stipend/stipendtop.WholeTax", spec := "wholeTax", unfollowed := true, recurses := true, apart := false }
def WholeTaxSaid : Prop := wholeTaxRow.holds Try.pinned (OpenSpec.ofChange wholeTaxSpec)

/-- ITS FALSE NEIGHBOUR: 'it returns false'. Refute it at one input. -/
def wholeTaxWrong : ChangeSpec := { name := "wholeTax", fn := fun _ => fun
  | [d1, d2, d3] => { results := [.lit (.bool false)], args := [d1, d2, d3] }
  | _ => none }
def WholeTaxWrongFalsely : Prop := wholeTaxRow.holds Try.pinned (OpenSpec.ofChange wholeTaxWrong)

/-- 'stipendlaw13.TaxDue': WHATEVER THE INPUT: true; the input reads as it did. -/
def taxDueSpec : ChangeSpec := { name := "taxDue", fn := fun _ => fun
  | [d1, d2, d3] => { results := [.lit (.bool true)], args := [d1, d2, d3] }
  | _ => none }
def taxDueRow : OpenClaim := { program := "ytlfeppbhicmeoaa", sum := "cfb96c3b28e18542bc7d3298dd06422d9b76fb52893b1b0e0afdb7b14e845f8a", func := "stipend/stipendlaw13.TaxDue", spec := "taxDue", unfollowed := true, recurses := true, apart := false }
def TaxDueSaid : Prop := taxDueRow.holds Try.pinned (OpenSpec.ofChange taxDueSpec)

/-- ITS FALSE NEIGHBOUR: 'it returns false'. Refute it at one input. -/
def taxDueWrong : ChangeSpec := { name := "taxDue", fn := fun _ => fun
  | [d1, d2, d3] => { results := [.lit (.bool false)], args := [d1, d2, d3] }
  | _ => none }
def TaxDueWrongFalsely : Prop := taxDueRow.holds Try.pinned (OpenSpec.ofChange taxDueWrong)

/-- 'stipendlaw13.TaxRefuses': WHATEVER THE INPUT: true; the input reads as it did. -/
def taxRefusesSpec : ChangeSpec := { name := "taxRefuses", fn := fun _ => fun
  | [d1, d2, d3] => { results := [.lit (.bool true)], args := [d1, d2, d3] }
  | _ => none }
def taxRefusesRow : OpenClaim := { program := "ytlfeppbhicmeoaa", sum := "cfb96c3b28e18542bc7d3298dd06422d9b76fb52893b1b0e0afdb7b14e845f8a", func := "stipend/stipendlaw13.TaxRefuses", spec := "taxRefuses", unfollowed := true, recurses := true, apart := false }
def TaxRefusesSaid : Prop := taxRefusesRow.holds Try.pinned (OpenSpec.ofChange taxRefusesSpec)

/-- ITS FALSE NEIGHBOUR: 'it returns false'. Refute it at one input. -/
def taxRefusesWrong : ChangeSpec := { name := "taxRefuses", fn := fun _ => fun
  | [d1, d2, d3] => { results := [.lit (.bool false)], args := [d1, d2, d3] }
  | _ => none }
def TaxRefusesWrongFalsely : Prop := taxRefusesRow.holds Try.pinned (OpenSpec.ofChange taxRefusesWrong)

/-- 'stipendlaw13.TaxRises': WHATEVER THE INPUT: true; the input reads as it did. -/
def taxRisesSpec : ChangeSpec := { name := "taxRises", fn := fun _ => fun
  | [d1, d2, d3] => { results := [.lit (.bool true)], args := [d1, d2, d3] }
  | _ => none }
def taxRisesRow : OpenClaim := { program := "ytlfeppbhicmeoaa", sum := "cfb96c3b28e18542bc7d3298dd06422d9b76fb52893b1b0e0afdb7b14e845f8a", func := "stipend/stipendlaw13.TaxRises", spec := "taxRises", unfollowed := true, recurses := true, apart := false }
def TaxRisesSaid : Prop := taxRisesRow.holds Try.pinned (OpenSpec.ofChange taxRisesSpec)

/-- ITS FALSE NEIGHBOUR: 'it returns false'. Refute it at one input. -/
def taxRisesWrong : ChangeSpec := { name := "taxRises", fn := fun _ => fun
  | [d1, d2, d3] => { results := [.lit (.bool false)], args := [d1, d2, d3] }
  | _ => none }
def TaxRisesWrongFalsely : Prop := taxRisesRow.holds Try.pinned (OpenSpec.ofChange taxRisesWrong)

/-- 'stipendlaw13.TaxYear': WHATEVER THE INPUT: true; the input reads as it did. -/
def taxYearSpec : ChangeSpec := { name := "taxYear", fn := fun _ => fun
  | [d1, d2, d3] => { results := [.lit (.bool true)], args := [d1, d2, d3] }
  | _ => none }
def taxYearRow : OpenClaim := { program := "ytlfeppbhicmeoaa", sum := "cfb96c3b28e18542bc7d3298dd06422d9b76fb52893b1b0e0afdb7b14e845f8a", func := "stipend/stipendlaw13.TaxYear", spec := "taxYear", unfollowed := true, recurses := true, apart := false }
def TaxYearSaid : Prop := taxYearRow.holds Try.pinned (OpenSpec.ofChange taxYearSpec)

/-- ITS FALSE NEIGHBOUR: 'it returns false'. Refute it at one input. -/
def taxYearWrong : ChangeSpec := { name := "taxYear", fn := fun _ => fun
  | [d1, d2, d3] => { results := [.lit (.bool false)], args := [d1, d2, d3] }
  | _ => none }
def TaxYearWrongFalsely : Prop := taxYearRow.holds Try.pinned (OpenSpec.ofChange taxYearWrong)

/-- 'stipendlaw13.TaxSpreads': WHATEVER THE INPUT: true; the input reads as it did. -/
def taxSpreadsSpec : ChangeSpec := { name := "taxSpreads", fn := fun _ => fun
  | [d1, d2, d3] => { results := [.lit (.bool true)], args := [d1, d2, d3] }
  | _ => none }
def taxSpreadsRow : OpenClaim := { program := "ytlfeppbhicmeoaa", sum := "cfb96c3b28e18542bc7d3298dd06422d9b76fb52893b1b0e0afdb7b14e845f8a", func := "stipend/stipendlaw13.TaxSpreads", spec := "taxSpreads", unfollowed := true, recurses := true, apart := false }
def TaxSpreadsSaid : Prop := taxSpreadsRow.holds Try.pinned (OpenSpec.ofChange taxSpreadsSpec)

/-- ITS FALSE NEIGHBOUR: 'it returns false'. Refute it at one input. -/
def taxSpreadsWrong : ChangeSpec := { name := "taxSpreads", fn := fun _ => fun
  | [d1, d2, d3] => { results := [.lit (.bool false)], args := [d1, d2, d3] }
  | _ => none }
def TaxSpreadsWrongFalsely : Prop := taxSpreadsRow.holds Try.pinned (OpenSpec.ofChange taxSpreadsWrong)

/-- 'stipendlaw13.TaxExplains': WHATEVER THE INPUT: true; the input reads as it did. -/
def taxExplainsSpec : ChangeSpec := { name := "taxExplains", fn := fun _ => fun
  | [d1, d2, d3] => { results := [.lit (.bool true)], args := [d1, d2, d3] }
  | _ => none }
def taxExplainsRow : OpenClaim := { program := "ytlfeppbhicmeoaa", sum := "cfb96c3b28e18542bc7d3298dd06422d9b76fb52893b1b0e0afdb7b14e845f8a", func := "stipend/stipendlaw13.TaxExplains", spec := "taxExplains", unfollowed := true, recurses := true, apart := false }
def TaxExplainsSaid : Prop := taxExplainsRow.holds Try.pinned (OpenSpec.ofChange taxExplainsSpec)

/-- ITS FALSE NEIGHBOUR: 'it returns false'. Refute it at one input. -/
def taxExplainsWrong : ChangeSpec := { name := "taxExplains", fn := fun _ => fun
  | [d1, d2, d3] => { results := [.lit (.bool false)], args := [d1, d2, d3] }
  | _ => none }
def TaxExplainsWrongFalsely : Prop := taxExplainsRow.holds Try.pinned (OpenSpec.ofChange taxExplainsWrong)

/- THE SECOND FORM. 'bulk': how many values and letters a reading holds, each counted each time it is reached (what is shared counts as often as it is met; a slice's spare places count too). A statement '..UptoSaid' is the law's where the arguments, and the package variables that the reading takes, are together of bulk at most 1048576: NARROWER than '..Said'. Prove '..Said' where nothing that the law and all that it calls make is longer than what came in: it says more and counts as full. Else prove '..UptoSaid'. A law counts once. -/
mutual
def uptoBulk {H : Type} : DataW H → Nat
  | .lit (.string bytes) => bytes.length + 1
  | .lit _ => 1
  | .nil => 1
  | .ptr d => uptoBulk d + 1
  | .slice elems spare => uptoBulkAll elems + uptoBulkAll spare + 1
  | .agg parts => uptoBulkAll parts + 1
  | .iface _ d => uptoBulk d + 1
  | .map entries => uptoBulkEntries entries + 1
  | .held _ => 1
def uptoBulkAll {H : Type} : List (DataW H) → Nat
  | [] => 0
  | d :: r => uptoBulk d + uptoBulkAll r
def uptoBulkEntries {H : Type} : List (Lit × DataW H) → Nat
  | [] => 0
  | x :: r => uptoBulkEntry x + uptoBulkEntries r
def uptoBulkEntry {H : Type} : Lit × DataW H → Nat
  | (.string bytes, d) => bytes.length + uptoBulk d + 1
  | (_, d) => uptoBulk d + 1
 end
def uptoSmall : (H : Type) → List (DataW H) → Bool := fun _ ds => decide (uptoBulkAll ds ≤ 1048576)
def OpenSpec.upto (s : _root_.Go.ChangeSpec) : _root_.Go.OpenSpec := { _root_.Go.OpenSpec.ofChange s with cond := some uptoSmall }

/-- 'stipendtop.WholeTax', WHERE WHAT IT READS IS OF BULK AT MOST 1048576: true; the input reads as it did. -/
def wholeTaxUptoRow : OpenClaim := { program := "ytlfeppbhicmeoaa", sum := "cfb96c3b28e18542bc7d3298dd06422d9b76fb52893b1b0e0afdb7b14e845f8a", func := "stipend/stipendtop.WholeTax", spec := "wholeTax", unfollowed := true, recurses := true, apart := false, narrowed := true }
def WholeTaxUptoSaid : Prop := wholeTaxUptoRow.holds Try.pinned (OpenSpec.upto wholeTaxSpec)

/-- 'stipendlaw13.TaxDue', WHERE WHAT IT READS IS OF BULK AT MOST 1048576: true; the input reads as it did. -/
def taxDueUptoRow : OpenClaim := { program := "ytlfeppbhicmeoaa", sum := "cfb96c3b28e18542bc7d3298dd06422d9b76fb52893b1b0e0afdb7b14e845f8a", func := "stipend/stipendlaw13.TaxDue", spec := "taxDue", unfollowed := true, recurses := true, apart := false, narrowed := true }
def TaxDueUptoSaid : Prop := taxDueUptoRow.holds Try.pinned (OpenSpec.upto taxDueSpec)

/-- 'stipendlaw13.TaxRefuses', WHERE WHAT IT READS IS OF BULK AT MOST 1048576: true; the input reads as it did. -/
def taxRefusesUptoRow : OpenClaim := { program := "ytlfeppbhicmeoaa", sum := "cfb96c3b28e18542bc7d3298dd06422d9b76fb52893b1b0e0afdb7b14e845f8a", func := "stipend/stipendlaw13.TaxRefuses", spec := "taxRefuses", unfollowed := true, recurses := true, apart := false, narrowed := true }
def TaxRefusesUptoSaid : Prop := taxRefusesUptoRow.holds Try.pinned (OpenSpec.upto taxRefusesSpec)

/-- 'stipendlaw13.TaxRises', WHERE WHAT IT READS IS OF BULK AT MOST 1048576: true; the input reads as it did. -/
def taxRisesUptoRow : OpenClaim := { program := "ytlfeppbhicmeoaa", sum := "cfb96c3b28e18542bc7d3298dd06422d9b76fb52893b1b0e0afdb7b14e845f8a", func := "stipend/stipendlaw13.TaxRises", spec := "taxRises", unfollowed := true, recurses := true, apart := false, narrowed := true }
def TaxRisesUptoSaid : Prop := taxRisesUptoRow.holds Try.pinned (OpenSpec.upto taxRisesSpec)

/-- 'stipendlaw13.TaxYear', WHERE WHAT IT READS IS OF BULK AT MOST 1048576: true; the input reads as it did. -/
def taxYearUptoRow : OpenClaim := { program := "ytlfeppbhicmeoaa", sum := "cfb96c3b28e18542bc7d3298dd06422d9b76fb52893b1b0e0afdb7b14e845f8a", func := "stipend/stipendlaw13.TaxYear", spec := "taxYear", unfollowed := true, recurses := true, apart := false, narrowed := true }
def TaxYearUptoSaid : Prop := taxYearUptoRow.holds Try.pinned (OpenSpec.upto taxYearSpec)

/-- 'stipendlaw13.TaxSpreads', WHERE WHAT IT READS IS OF BULK AT MOST 1048576: true; the input reads as it did. -/
def taxSpreadsUptoRow : OpenClaim := { program := "ytlfeppbhicmeoaa", sum := "cfb96c3b28e18542bc7d3298dd06422d9b76fb52893b1b0e0afdb7b14e845f8a", func := "stipend/stipendlaw13.TaxSpreads", spec := "taxSpreads", unfollowed := true, recurses := true, apart := false, narrowed := true }
def TaxSpreadsUptoSaid : Prop := taxSpreadsUptoRow.holds Try.pinned (OpenSpec.upto taxSpreadsSpec)

/-- 'stipendlaw13.TaxExplains', WHERE WHAT IT READS IS OF BULK AT MOST 1048576: true; the input reads as it did. -/
def taxExplainsUptoRow : OpenClaim := { program := "ytlfeppbhicmeoaa", sum := "cfb96c3b28e18542bc7d3298dd06422d9b76fb52893b1b0e0afdb7b14e845f8a", func := "stipend/stipendlaw13.TaxExplains", spec := "taxExplains", unfollowed := true, recurses := true, apart := false, narrowed := true }
def TaxExplainsUptoSaid : Prop := taxExplainsUptoRow.holds Try.pinned (OpenSpec.upto taxExplainsSpec)

end Rows
end Go.Proofs.Ytlfeppbhicmeoaa
