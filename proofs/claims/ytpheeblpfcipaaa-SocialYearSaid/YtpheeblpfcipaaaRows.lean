/-
  No cell of these rows narrows 'for every input' (looked for: loops, veiled, ifaces, maps, wideKeys, modest, calm, conditions, laid).
  DERIVED. THE GIVEN ROWS OF THIS SEAT. 4 by the template 'for every input the law returns true; each argument reads behind the call as it read before'; 0 by the template 'total and deterministic' (their statements: YtpheeblpfcipaaaTotals.lean).
  GIVEN WITH THE SEED: the statements are not yours to turn. If you find one false, say at which input.
  Laid BY PROGRAM, IN A SANDBOX (cutbox-rows.mjs): the forced cells as the released guide's own fill.sh prints them over the translation dd92a55a6b457cb4… (all of the seat's roots in one cut). By AI agents, Wed Nov 11 2026. No macro, syntax, notation, axiom, sorry.
-/
import Derived.Test.YtpheeblpfcipaaaChecked
import GoSem.Claim
import GoSem.ClaimJoined
import GoSem.ClaimMapViews
import Derived.JoinedTies
import Derived.KernelRfl
namespace Go.Proofs.Ytpheeblpfcipaaa
/- THE CELL 'sum', in the pinned program and in every row, IS THE sha256 OF THE DUMP (.gsa) THAT YtpheeblpfcipaaaProg.lean LOADS. Nothing in Lean hashes anything: it is a label: what it is worth is what the hold of that sum in a sandbox is worth. -/
noncomputable def Try.pinned : Pinned := { name := "ytpheeblpfcipaaa", sum := "dd92a55a6b457cb4d549f0b9be738a1e9e45b93551dc41ba105cc675b65e20e5", checked := Try.checked }
namespace Rows
def none {H : Type} : Left H := { results := [], args := [] }

/-- 'stipendlaw15.SocialDue': WHATEVER THE INPUT: true; the input reads as it did. -/
def socialDueSpec : ChangeSpec := { name := "socialDue", fn := fun _ => fun
  | [d1, d2, d3] => { results := [.lit (.bool true)], args := [d1, d2, d3] }
  | _ => none }
def socialDueRow : OpenClaim := { program := "ytpheeblpfcipaaa", sum := "dd92a55a6b457cb4d549f0b9be738a1e9e45b93551dc41ba105cc675b65e20e5", func := "stipend/stipendlaw15.SocialDue", spec := "socialDue", unfollowed := true, recurses := true, apart := false }
def SocialDueSaid : Prop := socialDueRow.holds Try.pinned (OpenSpec.ofChange socialDueSpec)

/-- ITS FALSE NEIGHBOUR: 'it returns false'. Refute it at one input. -/
def socialDueWrong : ChangeSpec := { name := "socialDue", fn := fun _ => fun
  | [d1, d2, d3] => { results := [.lit (.bool false)], args := [d1, d2, d3] }
  | _ => none }
def SocialDueWrongFalsely : Prop := socialDueRow.holds Try.pinned (OpenSpec.ofChange socialDueWrong)

/-- 'stipendlaw15.SocialSums': WHATEVER THE INPUT: true; the input reads as it did. -/
def socialSumsSpec : ChangeSpec := { name := "socialSums", fn := fun _ => fun
  | [d1, d2] => { results := [.lit (.bool true)], args := [d1, d2] }
  | _ => none }
def socialSumsRow : OpenClaim := { program := "ytpheeblpfcipaaa", sum := "dd92a55a6b457cb4d549f0b9be738a1e9e45b93551dc41ba105cc675b65e20e5", func := "stipend/stipendlaw15.SocialSums", spec := "socialSums", unfollowed := true, recurses := true, apart := false }
def SocialSumsSaid : Prop := socialSumsRow.holds Try.pinned (OpenSpec.ofChange socialSumsSpec)

/-- ITS FALSE NEIGHBOUR: 'it returns false'. Refute it at one input. -/
def socialSumsWrong : ChangeSpec := { name := "socialSums", fn := fun _ => fun
  | [d1, d2] => { results := [.lit (.bool false)], args := [d1, d2] }
  | _ => none }
def SocialSumsWrongFalsely : Prop := socialSumsRow.holds Try.pinned (OpenSpec.ofChange socialSumsWrong)

/-- 'stipendlaw15.SocialCeils': WHATEVER THE INPUT: true; the input reads as it did. -/
def socialCeilsSpec : ChangeSpec := { name := "socialCeils", fn := fun _ => fun
  | [d1, d2] => { results := [.lit (.bool true)], args := [d1, d2] }
  | _ => none }
def socialCeilsRow : OpenClaim := { program := "ytpheeblpfcipaaa", sum := "dd92a55a6b457cb4d549f0b9be738a1e9e45b93551dc41ba105cc675b65e20e5", func := "stipend/stipendlaw15.SocialCeils", spec := "socialCeils", unfollowed := true, recurses := true, apart := false }
def SocialCeilsSaid : Prop := socialCeilsRow.holds Try.pinned (OpenSpec.ofChange socialCeilsSpec)

/-- ITS FALSE NEIGHBOUR: 'it returns false'. Refute it at one input. -/
def socialCeilsWrong : ChangeSpec := { name := "socialCeils", fn := fun _ => fun
  | [d1, d2] => { results := [.lit (.bool false)], args := [d1, d2] }
  | _ => none }
def SocialCeilsWrongFalsely : Prop := socialCeilsRow.holds Try.pinned (OpenSpec.ofChange socialCeilsWrong)

/-- 'stipendlaw15.SocialYear': WHATEVER THE INPUT: true; the input reads as it did. -/
def socialYearSpec : ChangeSpec := { name := "socialYear", fn := fun _ => fun
  | [d1, d2] => { results := [.lit (.bool true)], args := [d1, d2] }
  | _ => none }
def socialYearRow : OpenClaim := { program := "ytpheeblpfcipaaa", sum := "dd92a55a6b457cb4d549f0b9be738a1e9e45b93551dc41ba105cc675b65e20e5", func := "stipend/stipendlaw15.SocialYear", spec := "socialYear", unfollowed := true, recurses := true, apart := false }
def SocialYearSaid : Prop := socialYearRow.holds Try.pinned (OpenSpec.ofChange socialYearSpec)

/-- ITS FALSE NEIGHBOUR: 'it returns false'. Refute it at one input. -/
def socialYearWrong : ChangeSpec := { name := "socialYear", fn := fun _ => fun
  | [d1, d2] => { results := [.lit (.bool false)], args := [d1, d2] }
  | _ => none }
def SocialYearWrongFalsely : Prop := socialYearRow.holds Try.pinned (OpenSpec.ofChange socialYearWrong)

/- THE SECOND FORM. 'bulk': how many values and letters a reading holds, each counted each time it is reached (what is shared counts as often as it is met; a slice's spare places count too). A statement '..UptoSaid' is the law's where the arguments, and the package variables that the reading takes, are together of bulk at most 1048576: NARROWER than '..Said'. Prove '..Said' where nothing that the law and all that it calls make is longer than what came in: it says more and counts as full. Else prove '..UptoSaid'. A law counts once. -/
mutual
def uptoBulk {H : Type} : DataW H → Nat
  | .lit (.string bytes) => bytes.length + 1
  | .lit _ => 1
  | .nil => 1
  | .ptr d => uptoBulk d + 1
  | .slice elems spare => uptoBulkAll elems + uptoBulkAll spare + 1
  | .agg parts => uptoBulkAll parts + 1
  | .iface _ d => uptoBulk d + 1
  | .map entries => uptoBulkEntries entries + 1
  | .held _ => 1
def uptoBulkAll {H : Type} : List (DataW H) → Nat
  | [] => 0
  | d :: r => uptoBulk d + uptoBulkAll r
def uptoBulkEntries {H : Type} : List (Lit × DataW H) → Nat
  | [] => 0
  | x :: r => uptoBulkEntry x + uptoBulkEntries r
def uptoBulkEntry {H : Type} : Lit × DataW H → Nat
  | (.string bytes, d) => bytes.length + uptoBulk d + 1
  | (_, d) => uptoBulk d + 1
 end
def uptoSmall : (H : Type) → List (DataW H) → Bool := fun _ ds => decide (uptoBulkAll ds ≤ 1048576)
def OpenSpec.upto (s : _root_.Go.ChangeSpec) : _root_.Go.OpenSpec := { _root_.Go.OpenSpec.ofChange s with cond := some uptoSmall }

/-- 'stipendlaw15.SocialDue', WHERE WHAT IT READS IS OF BULK AT MOST 1048576: true; the input reads as it did. -/
def socialDueUptoRow : OpenClaim := { program := "ytpheeblpfcipaaa", sum := "dd92a55a6b457cb4d549f0b9be738a1e9e45b93551dc41ba105cc675b65e20e5", func := "stipend/stipendlaw15.SocialDue", spec := "socialDue", unfollowed := true, recurses := true, apart := false, narrowed := true }
def SocialDueUptoSaid : Prop := socialDueUptoRow.holds Try.pinned (OpenSpec.upto socialDueSpec)

/-- 'stipendlaw15.SocialSums', WHERE WHAT IT READS IS OF BULK AT MOST 1048576: true; the input reads as it did. -/
def socialSumsUptoRow : OpenClaim := { program := "ytpheeblpfcipaaa", sum := "dd92a55a6b457cb4d549f0b9be738a1e9e45b93551dc41ba105cc675b65e20e5", func := "stipend/stipendlaw15.SocialSums", spec := "socialSums", unfollowed := true, recurses := true, apart := false, narrowed := true }
def SocialSumsUptoSaid : Prop := socialSumsUptoRow.holds Try.pinned (OpenSpec.upto socialSumsSpec)

/-- 'stipendlaw15.SocialCeils', WHERE WHAT IT READS IS OF BULK AT MOST 1048576: true; the input reads as it did. -/
def socialCeilsUptoRow : OpenClaim := { program := "ytpheeblpfcipaaa", sum := "dd92a55a6b457cb4d549f0b9be738a1e9e45b93551dc41ba105cc675b65e20e5", func := "stipend/stipendlaw15.SocialCeils", spec := "socialCeils", unfollowed := true, recurses := true, apart := false, narrowed := true }
def SocialCeilsUptoSaid : Prop := socialCeilsUptoRow.holds Try.pinned (OpenSpec.upto socialCeilsSpec)

/-- 'stipendlaw15.SocialYear', WHERE WHAT IT READS IS OF BULK AT MOST 1048576: true; the input reads as it did. -/
def socialYearUptoRow : OpenClaim := { program := "ytpheeblpfcipaaa", sum := "dd92a55a6b457cb4d549f0b9be738a1e9e45b93551dc41ba105cc675b65e20e5", func := "stipend/stipendlaw15.SocialYear", spec := "socialYear", unfollowed := true, recurses := true, apart := false, narrowed := true }
def SocialYearUptoSaid : Prop := socialYearUptoRow.holds Try.pinned (OpenSpec.upto socialYearSpec)

end Rows
end Go.Proofs.Ytpheeblpfcipaaa
