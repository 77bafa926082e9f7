/-
  No cell of these rows narrows 'for every input' (looked for: loops, veiled, ifaces, maps, wideKeys, modest, calm, conditions, laid).
  DERIVED. THE GIVEN ROWS OF THIS SEAT. 4 by the template 'for every input the law returns true; each argument reads behind the call as it read before'; 0 by the template 'total and deterministic' (their statements: YtiaabmhjkoohmaaGreatTotals.lean).
  GIVEN WITH THE SEED: the statements are not yours to turn. If you find one false, say at which input.
  Laid BY PROGRAM, IN A SANDBOX (cutbox-rows.mjs): the forced cells as the released guide's own fill.sh prints them over the translation a614d372436a2e68… (all of the seat's roots in one cut). By AI agents, Wed Nov 11 2026. No macro, syntax, notation, axiom, sorry.
-/
import Derived.Test.YtiaabmhjkoohmaaGreatChecked
import GoSem.Claim
import GoSem.ClaimJoined
import GoSem.ClaimMapViews
import Derived.JoinedTies
import Derived.KernelRfl
namespace Go.Proofs.YtiaabmhjkoohmaaGreat
/- THE CELL 'sum', in the pinned program and in every row, IS THE sha256 OF THE DUMP (.gsa) THAT YtiaabmhjkoohmaaGreatProg.lean LOADS. Nothing in Lean hashes anything: it is a label: what it is worth is what the hold of that sum in a sandbox is worth. -/
noncomputable def Tryz.pinned : Pinned := { name := "ytiaabmhjkoohmaagreat", sum := "a614d372436a2e68d507594304a37afcc1999f002177e601fd4aeecd56e9bf20", checked := Tryz.checked }
namespace Rows
def none {H : Type} : Left H := { results := [], args := [] }

/-- 'stipendlaw23.RetroPosted': WHATEVER THE INPUT: true; the input reads as it did. -/
def retroPostedSpec : ChangeSpec := { name := "retroPosted", fn := fun _ => fun
  | [d1, d2, d3] => { results := [.lit (.bool true)], args := [d1, d2, d3] }
  | _ => none }
def retroPostedRow : OpenClaim := { program := "ytiaabmhjkoohmaagreat", sum := "a614d372436a2e68d507594304a37afcc1999f002177e601fd4aeecd56e9bf20", func := "stipend/stipendlaw23.RetroPosted", spec := "retroPosted", inPlace := ["slices.overlaps[stipend/order.State]"], unfollowed := true, recurses := true, apart := false }
def RetroPostedSaid : Prop := retroPostedRow.holds Tryz.pinned (OpenSpec.ofChange retroPostedSpec)

/-- ITS FALSE NEIGHBOUR: 'it returns false'. Refute it at one input. -/
def retroPostedWrong : ChangeSpec := { name := "retroPosted", fn := fun _ => fun
  | [d1, d2, d3] => { results := [.lit (.bool false)], args := [d1, d2, d3] }
  | _ => none }
def RetroPostedWrongFalsely : Prop := retroPostedRow.holds Tryz.pinned (OpenSpec.ofChange retroPostedWrong)

/-- 'stipendlaw23.RetroKeeps': WHATEVER THE INPUT: true; the input reads as it did. -/
def retroKeepsSpec : ChangeSpec := { name := "retroKeeps", fn := fun _ => fun
  | [d1, d2, d3] => { results := [.lit (.bool true)], args := [d1, d2, d3] }
  | _ => none }
def retroKeepsRow : OpenClaim := { program := "ytiaabmhjkoohmaagreat", sum := "a614d372436a2e68d507594304a37afcc1999f002177e601fd4aeecd56e9bf20", func := "stipend/stipendlaw23.RetroKeeps", spec := "retroKeeps", inPlace := ["slices.overlaps[stipend/order.State]"], unfollowed := true, recurses := true, apart := false }
def RetroKeepsSaid : Prop := retroKeepsRow.holds Tryz.pinned (OpenSpec.ofChange retroKeepsSpec)

/-- ITS FALSE NEIGHBOUR: 'it returns false'. Refute it at one input. -/
def retroKeepsWrong : ChangeSpec := { name := "retroKeeps", fn := fun _ => fun
  | [d1, d2, d3] => { results := [.lit (.bool false)], args := [d1, d2, d3] }
  | _ => none }
def RetroKeepsWrongFalsely : Prop := retroKeepsRow.holds Tryz.pinned (OpenSpec.ofChange retroKeepsWrong)

/-- 'stipendlaw23.RetroEffect': WHATEVER THE INPUT: true; the input reads as it did. -/
def retroEffectSpec : ChangeSpec := { name := "retroEffect", fn := fun _ => fun
  | [d1, d2, d3] => { results := [.lit (.bool true)], args := [d1, d2, d3] }
  | _ => none }
def retroEffectRow : OpenClaim := { program := "ytiaabmhjkoohmaagreat", sum := "a614d372436a2e68d507594304a37afcc1999f002177e601fd4aeecd56e9bf20", func := "stipend/stipendlaw23.RetroEffect", spec := "retroEffect", inPlace := ["slices.overlaps[stipend/order.State]"], unfollowed := true, recurses := true, apart := false }
def RetroEffectSaid : Prop := retroEffectRow.holds Tryz.pinned (OpenSpec.ofChange retroEffectSpec)

/-- ITS FALSE NEIGHBOUR: 'it returns false'. Refute it at one input. -/
def retroEffectWrong : ChangeSpec := { name := "retroEffect", fn := fun _ => fun
  | [d1, d2, d3] => { results := [.lit (.bool false)], args := [d1, d2, d3] }
  | _ => none }
def RetroEffectWrongFalsely : Prop := retroEffectRow.holds Tryz.pinned (OpenSpec.ofChange retroEffectWrong)

/-- 'stipendlaw23.RetroUndo': WHATEVER THE INPUT: true; the input reads as it did. -/
def retroUndoSpec : ChangeSpec := { name := "retroUndo", fn := fun _ => fun
  | [d1, d2, d3] => { results := [.lit (.bool true)], args := [d1, d2, d3] }
  | _ => none }
def retroUndoRow : OpenClaim := { program := "ytiaabmhjkoohmaagreat", sum := "a614d372436a2e68d507594304a37afcc1999f002177e601fd4aeecd56e9bf20", func := "stipend/stipendlaw23.RetroUndo", spec := "retroUndo", inPlace := ["slices.overlaps[stipend/order.State]"], unfollowed := true, recurses := true, apart := false }
def RetroUndoSaid : Prop := retroUndoRow.holds Tryz.pinned (OpenSpec.ofChange retroUndoSpec)

/-- ITS FALSE NEIGHBOUR: 'it returns false'. Refute it at one input. -/
def retroUndoWrong : ChangeSpec := { name := "retroUndo", fn := fun _ => fun
  | [d1, d2, d3] => { results := [.lit (.bool false)], args := [d1, d2, d3] }
  | _ => none }
def RetroUndoWrongFalsely : Prop := retroUndoRow.holds Tryz.pinned (OpenSpec.ofChange retroUndoWrong)

/- THE SECOND FORM. 'bulk': how many values and letters a reading holds, each counted each time it is reached (what is shared counts as often as it is met; a slice's spare places count too). A statement '..UptoSaid' is the law's where the arguments, and the package variables that the reading takes, are together of bulk at most 1048576: NARROWER than '..Said'. Prove '..Said' where nothing that the law and all that it calls make is longer than what came in: it says more and counts as full. Else prove '..UptoSaid'. A law counts once. -/
mutual
def uptoBulk {H : Type} : DataW H → Nat
  | .lit (.string bytes) => bytes.length + 1
  | .lit _ => 1
  | .nil => 1
  | .ptr d => uptoBulk d + 1
  | .slice elems spare => uptoBulkAll elems + uptoBulkAll spare + 1
  | .agg parts => uptoBulkAll parts + 1
  | .iface _ d => uptoBulk d + 1
  | .map entries => uptoBulkEntries entries + 1
  | .held _ => 1
def uptoBulkAll {H : Type} : List (DataW H) → Nat
  | [] => 0
  | d :: r => uptoBulk d + uptoBulkAll r
def uptoBulkEntries {H : Type} : List (Lit × DataW H) → Nat
  | [] => 0
  | x :: r => uptoBulkEntry x + uptoBulkEntries r
def uptoBulkEntry {H : Type} : Lit × DataW H → Nat
  | (.string bytes, d) => bytes.length + uptoBulk d + 1
  | (_, d) => uptoBulk d + 1
 end
def uptoSmall : (H : Type) → List (DataW H) → Bool := fun _ ds => decide (uptoBulkAll ds ≤ 1048576)
def OpenSpec.upto (s : _root_.Go.ChangeSpec) : _root_.Go.OpenSpec := { _root_.Go.OpenSpec.ofChange s with cond := some uptoSmall }

/-- 'stipendlaw23.RetroPosted', WHERE WHAT IT READS IS OF BULK AT MOST 1048576: true; the input reads as it did. -/
def retroPostedUptoRow : OpenClaim := { program := "ytiaabmhjkoohmaagreat", sum := "a614d372436a2e68d507594304a37afcc1999f002177e601fd4aeecd56e9bf20", func := "stipend/stipendlaw23.RetroPosted", spec := "retroPosted", inPlace := ["slices.overlaps[stipend/order.State]"], unfollowed := true, recurses := true, apart := false, narrowed := true }
def RetroPostedUptoSaid : Prop := retroPostedUptoRow.holds Tryz.pinned (OpenSpec.upto retroPostedSpec)

/-- 'stipendlaw23.RetroKeeps', WHERE WHAT IT READS IS OF BULK AT MOST 1048576: true; the input reads as it did. -/
def retroKeepsUptoRow : OpenClaim := { program := "ytiaabmhjkoohmaagreat", sum := "a614d372436a2e68d507594304a37afcc1999f002177e601fd4aeecd56e9bf20", func := "stipend/stipendlaw23.RetroKeeps", spec := "retroKeeps", inPlace := ["slices.overlaps[stipend/order.State]"], unfollowed := true, recurses := true, apart := false, narrowed := true }
def RetroKeepsUptoSaid : Prop := retroKeepsUptoRow.holds Tryz.pinned (OpenSpec.upto retroKeepsSpec)

/-- 'stipendlaw23.RetroEffect', WHERE WHAT IT READS IS OF BULK AT MOST 1048576: true; the input reads as it did. -/
def retroEffectUptoRow : OpenClaim := { program := "ytiaabmhjkoohmaagreat", sum := "a614d372436a2e68d507594304a37afcc1999f002177e601fd4aeecd56e9bf20", func := "stipend/stipendlaw23.RetroEffect", spec := "retroEffect", inPlace := ["slices.overlaps[stipend/order.State]"], unfollowed := true, recurses := true, apart := false, narrowed := true }
def RetroEffectUptoSaid : Prop := retroEffectUptoRow.holds Tryz.pinned (OpenSpec.upto retroEffectSpec)

/-- 'stipendlaw23.RetroUndo', WHERE WHAT IT READS IS OF BULK AT MOST 1048576: true; the input reads as it did. -/
def retroUndoUptoRow : OpenClaim := { program := "ytiaabmhjkoohmaagreat", sum := "a614d372436a2e68d507594304a37afcc1999f002177e601fd4aeecd56e9bf20", func := "stipend/stipendlaw23.RetroUndo", spec := "retroUndo", inPlace := ["slices.overlaps[stipend/order.State]"], unfollowed := true, recurses := true, apart := false, narrowed := true }
def RetroUndoUptoSaid : Prop := retroUndoUptoRow.holds Tryz.pinned (OpenSpec.upto retroUndoSpec)

end Rows
end Go.Proofs.YtiaabmhjkoohmaaGreat
