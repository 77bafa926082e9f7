/-
  No cell of these rows narrows 'for every input' (looked for: loops, veiled, ifaces, maps, wideKeys, modest, calm, conditions, laid).
  DERIVED. THE GIVEN ROWS OF THIS SEAT. 12 by the template 'for every input the law returns true; each argument reads behind the call as it read before'; 0 by the template 'total and deterministic' (their statements: YtmlphohnegmgkaaGreatTotals.lean).
  GIVEN WITH THE SEED: the statements are not yours to turn. If you find one false, say at which input.
  Laid BY PROGRAM, IN A SANDBOX (cutbox-rows.mjs): the forced cells as the released guide's own fill.sh prints them over the translation ab732f6a980861a0… (all of the seat's roots in one cut). By AI agents, Wed Nov 11 2026. No macro, syntax, notation, axiom, sorry.
-/
import Derived.Test.YtmlphohnegmgkaaGreatChecked
import GoSem.Claim
import GoSem.ClaimJoined
import GoSem.ClaimMapViews
import Derived.JoinedTies
import Derived.KernelRfl
namespace Go.Proofs.YtmlphohnegmgkaaGreat
/- THE CELL 'sum', in the pinned program and in every row, IS THE sha256 OF THE DUMP (.gsa) THAT YtmlphohnegmgkaaGreatProg.lean LOADS. Nothing in Lean hashes anything: it is a label: what it is worth is what the hold of that sum in a sandbox is worth. -/
noncomputable def Tryz.pinned : Pinned := { name := "ytmlphohnegmgkaagreat", sum := "ab732f6a980861a0fd7e682838cc1bc159dd8749cbab5cb4db3b687154deff06", checked := Tryz.checked }
namespace Rows
def none {H : Type} : Left H := { results := [], args := [] }

/-- 'stipendlaw24.CleanChecks': WHATEVER THE INPUT: true; the input reads as it did. -/
def cleanChecksSpec : ChangeSpec := { name := "cleanChecks", fn := fun _ => fun
  | [d1, d2, d3] => { results := [.lit (.bool true)], args := [d1, d2, d3] }
  | _ => none }
def cleanChecksRow : OpenClaim := { program := "ytmlphohnegmgkaagreat", sum := "ab732f6a980861a0fd7e682838cc1bc159dd8749cbab5cb4db3b687154deff06", func := "stipend/stipendlaw24.CleanChecks", spec := "cleanChecks", unfollowed := true, recurses := true, apart := false }
def CleanChecksSaid : Prop := cleanChecksRow.holds Tryz.pinned (OpenSpec.ofChange cleanChecksSpec)

/-- ITS FALSE NEIGHBOUR: 'it returns false'. Refute it at one input. -/
def cleanChecksWrong : ChangeSpec := { name := "cleanChecks", fn := fun _ => fun
  | [d1, d2, d3] => { results := [.lit (.bool false)], args := [d1, d2, d3] }
  | _ => none }
def CleanChecksWrongFalsely : Prop := cleanChecksRow.holds Tryz.pinned (OpenSpec.ofChange cleanChecksWrong)

/-- 'stipendlaw24.CleanPays': WHATEVER THE INPUT: true; the input reads as it did. -/
def cleanPaysSpec : ChangeSpec := { name := "cleanPays", fn := fun _ => fun
  | [d1, d2] => { results := [.lit (.bool true)], args := [d1, d2] }
  | _ => none }
def cleanPaysRow : OpenClaim := { program := "ytmlphohnegmgkaagreat", sum := "ab732f6a980861a0fd7e682838cc1bc159dd8749cbab5cb4db3b687154deff06", func := "stipend/stipendlaw24.CleanPays", spec := "cleanPays", unfollowed := true, recurses := true, apart := false }
def CleanPaysSaid : Prop := cleanPaysRow.holds Tryz.pinned (OpenSpec.ofChange cleanPaysSpec)

/-- ITS FALSE NEIGHBOUR: 'it returns false'. Refute it at one input. -/
def cleanPaysWrong : ChangeSpec := { name := "cleanPays", fn := fun _ => fun
  | [d1, d2] => { results := [.lit (.bool false)], args := [d1, d2] }
  | _ => none }
def CleanPaysWrongFalsely : Prop := cleanPaysRow.holds Tryz.pinned (OpenSpec.ofChange cleanPaysWrong)

/-- 'stipendlaw24.CleanLate': WHATEVER THE INPUT: true; the input reads as it did. -/
def cleanLateSpec : ChangeSpec := { name := "cleanLate", fn := fun _ => fun
  | [d1, d2, d3] => { results := [.lit (.bool true)], args := [d1, d2, d3] }
  | _ => none }
def cleanLateRow : OpenClaim := { program := "ytmlphohnegmgkaagreat", sum := "ab732f6a980861a0fd7e682838cc1bc159dd8749cbab5cb4db3b687154deff06", func := "stipend/stipendlaw24.CleanLate", spec := "cleanLate", unfollowed := true, recurses := true, apart := false }
def CleanLateSaid : Prop := cleanLateRow.holds Tryz.pinned (OpenSpec.ofChange cleanLateSpec)

/-- ITS FALSE NEIGHBOUR: 'it returns false'. Refute it at one input. -/
def cleanLateWrong : ChangeSpec := { name := "cleanLate", fn := fun _ => fun
  | [d1, d2, d3] => { results := [.lit (.bool false)], args := [d1, d2, d3] }
  | _ => none }
def CleanLateWrongFalsely : Prop := cleanLateRow.holds Tryz.pinned (OpenSpec.ofChange cleanLateWrong)

/-- 'stipendlaw24.CleanOrder': WHATEVER THE INPUT: true; the input reads as it did. -/
def cleanOrderSpec : ChangeSpec := { name := "cleanOrder", fn := fun _ => fun
  | [d1, d2, d3] => { results := [.lit (.bool true)], args := [d1, d2, d3] }
  | _ => none }
def cleanOrderRow : OpenClaim := { program := "ytmlphohnegmgkaagreat", sum := "ab732f6a980861a0fd7e682838cc1bc159dd8749cbab5cb4db3b687154deff06", func := "stipend/stipendlaw24.CleanOrder", spec := "cleanOrder", unfollowed := true, recurses := true, apart := false }
def CleanOrderSaid : Prop := cleanOrderRow.holds Tryz.pinned (OpenSpec.ofChange cleanOrderSpec)

/-- ITS FALSE NEIGHBOUR: 'it returns false'. Refute it at one input. -/
def cleanOrderWrong : ChangeSpec := { name := "cleanOrder", fn := fun _ => fun
  | [d1, d2, d3] => { results := [.lit (.bool false)], args := [d1, d2, d3] }
  | _ => none }
def CleanOrderWrongFalsely : Prop := cleanOrderRow.holds Tryz.pinned (OpenSpec.ofChange cleanOrderWrong)

/-- 'stipendlaw24.CleanGaps': WHATEVER THE INPUT: true; the input reads as it did. -/
def cleanGapsSpec : ChangeSpec := { name := "cleanGaps", fn := fun _ => fun
  | [d1, d2, d3] => { results := [.lit (.bool true)], args := [d1, d2, d3] }
  | _ => none }
def cleanGapsRow : OpenClaim := { program := "ytmlphohnegmgkaagreat", sum := "ab732f6a980861a0fd7e682838cc1bc159dd8749cbab5cb4db3b687154deff06", func := "stipend/stipendlaw24.CleanGaps", spec := "cleanGaps", unfollowed := true, recurses := true, apart := false }
def CleanGapsSaid : Prop := cleanGapsRow.holds Tryz.pinned (OpenSpec.ofChange cleanGapsSpec)

/-- ITS FALSE NEIGHBOUR: 'it returns false'. Refute it at one input. -/
def cleanGapsWrong : ChangeSpec := { name := "cleanGaps", fn := fun _ => fun
  | [d1, d2, d3] => { results := [.lit (.bool false)], args := [d1, d2, d3] }
  | _ => none }
def CleanGapsWrongFalsely : Prop := cleanGapsRow.holds Tryz.pinned (OpenSpec.ofChange cleanGapsWrong)

/-- 'stipendlaw21.RunNew': WHATEVER THE INPUT: true; the input reads as it did. -/
def runNewSpec : ChangeSpec := { name := "runNew", fn := fun _ => fun
  | [d1, d2] => { results := [.lit (.bool true)], args := [d1, d2] }
  | _ => none }
def runNewRow : OpenClaim := { program := "ytmlphohnegmgkaagreat", sum := "ab732f6a980861a0fd7e682838cc1bc159dd8749cbab5cb4db3b687154deff06", func := "stipend/stipendlaw21.RunNew", spec := "runNew", inPlace := ["slices.overlaps[stipend/order.State]"], unfollowed := true, recurses := true, apart := false }
def RunNewSaid : Prop := runNewRow.holds Tryz.pinned (OpenSpec.ofChange runNewSpec)

/-- ITS FALSE NEIGHBOUR: 'it returns false'. Refute it at one input. -/
def runNewWrong : ChangeSpec := { name := "runNew", fn := fun _ => fun
  | [d1, d2] => { results := [.lit (.bool false)], args := [d1, d2] }
  | _ => none }
def RunNewWrongFalsely : Prop := runNewRow.holds Tryz.pinned (OpenSpec.ofChange runNewWrong)

/-- 'stipendlaw21.RunRaw': WHATEVER THE INPUT: true; the input reads as it did. -/
def runRawSpec : ChangeSpec := { name := "runRaw", fn := fun _ => fun
  | [d1, d2, d3] => { results := [.lit (.bool true)], args := [d1, d2, d3] }
  | _ => none }
def runRawRow : OpenClaim := { program := "ytmlphohnegmgkaagreat", sum := "ab732f6a980861a0fd7e682838cc1bc159dd8749cbab5cb4db3b687154deff06", func := "stipend/stipendlaw21.RunRaw", spec := "runRaw", inPlace := ["slices.overlaps[stipend/order.State]"], unfollowed := true, recurses := true, apart := false }
def RunRawSaid : Prop := runRawRow.holds Tryz.pinned (OpenSpec.ofChange runRawSpec)

/-- ITS FALSE NEIGHBOUR: 'it returns false'. Refute it at one input. -/
def runRawWrong : ChangeSpec := { name := "runRaw", fn := fun _ => fun
  | [d1, d2, d3] => { results := [.lit (.bool false)], args := [d1, d2, d3] }
  | _ => none }
def RunRawWrongFalsely : Prop := runRawRow.holds Tryz.pinned (OpenSpec.ofChange runRawWrong)

/-- 'stipendlaw23.RetroClean': WHATEVER THE INPUT: true; the input reads as it did. -/
def retroCleanSpec : ChangeSpec := { name := "retroClean", fn := fun _ => fun
  | [d1, d2, d3] => { results := [.lit (.bool true)], args := [d1, d2, d3] }
  | _ => none }
def retroCleanRow : OpenClaim := { program := "ytmlphohnegmgkaagreat", sum := "ab732f6a980861a0fd7e682838cc1bc159dd8749cbab5cb4db3b687154deff06", func := "stipend/stipendlaw23.RetroClean", spec := "retroClean", inPlace := ["slices.overlaps[stipend/order.State]"], unfollowed := true, recurses := true, apart := false }
def RetroCleanSaid : Prop := retroCleanRow.holds Tryz.pinned (OpenSpec.ofChange retroCleanSpec)

/-- ITS FALSE NEIGHBOUR: 'it returns false'. Refute it at one input. -/
def retroCleanWrong : ChangeSpec := { name := "retroClean", fn := fun _ => fun
  | [d1, d2, d3] => { results := [.lit (.bool false)], args := [d1, d2, d3] }
  | _ => none }
def RetroCleanWrongFalsely : Prop := retroCleanRow.holds Tryz.pinned (OpenSpec.ofChange retroCleanWrong)

/-- 'stipendlaw23.RetroKeeps': WHATEVER THE INPUT: true; the input reads as it did. -/
def retroKeepsSpec : ChangeSpec := { name := "retroKeeps", fn := fun _ => fun
  | [d1, d2, d3] => { results := [.lit (.bool true)], args := [d1, d2, d3] }
  | _ => none }
def retroKeepsRow : OpenClaim := { program := "ytmlphohnegmgkaagreat", sum := "ab732f6a980861a0fd7e682838cc1bc159dd8749cbab5cb4db3b687154deff06", func := "stipend/stipendlaw23.RetroKeeps", spec := "retroKeeps", inPlace := ["slices.overlaps[stipend/order.State]"], unfollowed := true, recurses := true, apart := false }
def RetroKeepsSaid : Prop := retroKeepsRow.holds Tryz.pinned (OpenSpec.ofChange retroKeepsSpec)

/-- ITS FALSE NEIGHBOUR: 'it returns false'. Refute it at one input. -/
def retroKeepsWrong : ChangeSpec := { name := "retroKeeps", fn := fun _ => fun
  | [d1, d2, d3] => { results := [.lit (.bool false)], args := [d1, d2, d3] }
  | _ => none }
def RetroKeepsWrongFalsely : Prop := retroKeepsRow.holds Tryz.pinned (OpenSpec.ofChange retroKeepsWrong)

/-- 'stipendlaw23.RetroPosted': WHATEVER THE INPUT: true; the input reads as it did. -/
def retroPostedSpec : ChangeSpec := { name := "retroPosted", fn := fun _ => fun
  | [d1, d2, d3] => { results := [.lit (.bool true)], args := [d1, d2, d3] }
  | _ => none }
def retroPostedRow : OpenClaim := { program := "ytmlphohnegmgkaagreat", sum := "ab732f6a980861a0fd7e682838cc1bc159dd8749cbab5cb4db3b687154deff06", func := "stipend/stipendlaw23.RetroPosted", spec := "retroPosted", inPlace := ["slices.overlaps[stipend/order.State]"], unfollowed := true, recurses := true, apart := false }
def RetroPostedSaid : Prop := retroPostedRow.holds Tryz.pinned (OpenSpec.ofChange retroPostedSpec)

/-- ITS FALSE NEIGHBOUR: 'it returns false'. Refute it at one input. -/
def retroPostedWrong : ChangeSpec := { name := "retroPosted", fn := fun _ => fun
  | [d1, d2, d3] => { results := [.lit (.bool false)], args := [d1, d2, d3] }
  | _ => none }
def RetroPostedWrongFalsely : Prop := retroPostedRow.holds Tryz.pinned (OpenSpec.ofChange retroPostedWrong)

/-- 'stipendlaw23.RetroEffect': WHATEVER THE INPUT: true; the input reads as it did. -/
def retroEffectSpec : ChangeSpec := { name := "retroEffect", fn := fun _ => fun
  | [d1, d2, d3] => { results := [.lit (.bool true)], args := [d1, d2, d3] }
  | _ => none }
def retroEffectRow : OpenClaim := { program := "ytmlphohnegmgkaagreat", sum := "ab732f6a980861a0fd7e682838cc1bc159dd8749cbab5cb4db3b687154deff06", func := "stipend/stipendlaw23.RetroEffect", spec := "retroEffect", inPlace := ["slices.overlaps[stipend/order.State]"], unfollowed := true, recurses := true, apart := false }
def RetroEffectSaid : Prop := retroEffectRow.holds Tryz.pinned (OpenSpec.ofChange retroEffectSpec)

/-- ITS FALSE NEIGHBOUR: 'it returns false'. Refute it at one input. -/
def retroEffectWrong : ChangeSpec := { name := "retroEffect", fn := fun _ => fun
  | [d1, d2, d3] => { results := [.lit (.bool false)], args := [d1, d2, d3] }
  | _ => none }
def RetroEffectWrongFalsely : Prop := retroEffectRow.holds Tryz.pinned (OpenSpec.ofChange retroEffectWrong)

/-- 'stipendlaw23.RetroUndo': WHATEVER THE INPUT: true; the input reads as it did. -/
def retroUndoSpec : ChangeSpec := { name := "retroUndo", fn := fun _ => fun
  | [d1, d2, d3] => { results := [.lit (.bool true)], args := [d1, d2, d3] }
  | _ => none }
def retroUndoRow : OpenClaim := { program := "ytmlphohnegmgkaagreat", sum := "ab732f6a980861a0fd7e682838cc1bc159dd8749cbab5cb4db3b687154deff06", func := "stipend/stipendlaw23.RetroUndo", spec := "retroUndo", inPlace := ["slices.overlaps[stipend/order.State]"], unfollowed := true, recurses := true, apart := false }
def RetroUndoSaid : Prop := retroUndoRow.holds Tryz.pinned (OpenSpec.ofChange retroUndoSpec)

/-- ITS FALSE NEIGHBOUR: 'it returns false'. Refute it at one input. -/
def retroUndoWrong : ChangeSpec := { name := "retroUndo", fn := fun _ => fun
  | [d1, d2, d3] => { results := [.lit (.bool false)], args := [d1, d2, d3] }
  | _ => none }
def RetroUndoWrongFalsely : Prop := retroUndoRow.holds Tryz.pinned (OpenSpec.ofChange retroUndoWrong)

/- THE SECOND FORM. 'bulk': how many values and letters a reading holds, each counted each time it is reached (what is shared counts as often as it is met; a slice's spare places count too). A statement '..UptoSaid' is the law's where the arguments, and the package variables that the reading takes, are together of bulk at most 1048576: NARROWER than '..Said'. Prove '..Said' where nothing that the law and all that it calls make is longer than what came in: it says more and counts as full. Else prove '..UptoSaid'. A law counts once. -/
mutual
def uptoBulk {H : Type} : DataW H → Nat
  | .lit (.string bytes) => bytes.length + 1
  | .lit _ => 1
  | .nil => 1
  | .ptr d => uptoBulk d + 1
  | .slice elems spare => uptoBulkAll elems + uptoBulkAll spare + 1
  | .agg parts => uptoBulkAll parts + 1
  | .iface _ d => uptoBulk d + 1
  | .map entries => uptoBulkEntries entries + 1
  | .held _ => 1
def uptoBulkAll {H : Type} : List (DataW H) → Nat
  | [] => 0
  | d :: r => uptoBulk d + uptoBulkAll r
def uptoBulkEntries {H : Type} : List (Lit × DataW H) → Nat
  | [] => 0
  | x :: r => uptoBulkEntry x + uptoBulkEntries r
def uptoBulkEntry {H : Type} : Lit × DataW H → Nat
  | (.string bytes, d) => bytes.length + uptoBulk d + 1
  | (_, d) => uptoBulk d + 1
 end
def uptoSmall : (H : Type) → List (DataW H) → Bool := fun _ ds => decide (uptoBulkAll ds ≤ 1048576)
def OpenSpec.upto (s : _root_.Go.ChangeSpec) : _root_.Go.OpenSpec := { _root_.Go.OpenSpec.ofChange s with cond := some uptoSmall }

/-- 'stipendlaw24.CleanChecks', WHERE WHAT IT READS IS OF BULK AT MOST 1048576: true; the input reads as it did. -/
def cleanChecksUptoRow : OpenClaim := { program := "ytmlphohnegmgkaagreat", sum := "ab732f6a980861a0fd7e682838cc1bc159dd8749cbab5cb4db3b687154deff06", func := "stipend/stipendlaw24.CleanChecks", spec := "cleanChecks", unfollowed := true, recurses := true, apart := false, narrowed := true }
def CleanChecksUptoSaid : Prop := cleanChecksUptoRow.holds Tryz.pinned (OpenSpec.upto cleanChecksSpec)

/-- 'stipendlaw24.CleanPays', WHERE WHAT IT READS IS OF BULK AT MOST 1048576: true; the input reads as it did. -/
def cleanPaysUptoRow : OpenClaim := { program := "ytmlphohnegmgkaagreat", sum := "ab732f6a980861a0fd7e682838cc1bc159dd8749cbab5cb4db3b687154deff06", func := "stipend/stipendlaw24.CleanPays", spec := "cleanPays", unfollowed := true, recurses := true, apart := false, narrowed := true }
def CleanPaysUptoSaid : Prop := cleanPaysUptoRow.holds Tryz.pinned (OpenSpec.upto cleanPaysSpec)

/-- 'stipendlaw24.CleanLate', WHERE WHAT IT READS IS OF BULK AT MOST 1048576: true; the input reads as it did. -/
def cleanLateUptoRow : OpenClaim := { program := "ytmlphohnegmgkaagreat", sum := "ab732f6a980861a0fd7e682838cc1bc159dd8749cbab5cb4db3b687154deff06", func := "stipend/stipendlaw24.CleanLate", spec := "cleanLate", unfollowed := true, recurses := true, apart := false, narrowed := true }
def CleanLateUptoSaid : Prop := cleanLateUptoRow.holds Tryz.pinned (OpenSpec.upto cleanLateSpec)

/-- 'stipendlaw24.CleanOrder', WHERE WHAT IT READS IS OF BULK AT MOST 1048576: true; the input reads as it did. -/
def cleanOrderUptoRow : OpenClaim := { program := "ytmlphohnegmgkaagreat", sum := "ab732f6a980861a0fd7e682838cc1bc159dd8749cbab5cb4db3b687154deff06", func := "stipend/stipendlaw24.CleanOrder", spec := "cleanOrder", unfollowed := true, recurses := true, apart := false, narrowed := true }
def CleanOrderUptoSaid : Prop := cleanOrderUptoRow.holds Tryz.pinned (OpenSpec.upto cleanOrderSpec)

/-- 'stipendlaw24.CleanGaps', WHERE WHAT IT READS IS OF BULK AT MOST 1048576: true; the input reads as it did. -/
def cleanGapsUptoRow : OpenClaim := { program := "ytmlphohnegmgkaagreat", sum := "ab732f6a980861a0fd7e682838cc1bc159dd8749cbab5cb4db3b687154deff06", func := "stipend/stipendlaw24.CleanGaps", spec := "cleanGaps", unfollowed := true, recurses := true, apart := false, narrowed := true }
def CleanGapsUptoSaid : Prop := cleanGapsUptoRow.holds Tryz.pinned (OpenSpec.upto cleanGapsSpec)

/-- 'stipendlaw21.RunNew', WHERE WHAT IT READS IS OF BULK AT MOST 1048576: true; the input reads as it did. -/
def runNewUptoRow : OpenClaim := { program := "ytmlphohnegmgkaagreat", sum := "ab732f6a980861a0fd7e682838cc1bc159dd8749cbab5cb4db3b687154deff06", func := "stipend/stipendlaw21.RunNew", spec := "runNew", inPlace := ["slices.overlaps[stipend/order.State]"], unfollowed := true, recurses := true, apart := false, narrowed := true }
def RunNewUptoSaid : Prop := runNewUptoRow.holds Tryz.pinned (OpenSpec.upto runNewSpec)

/-- 'stipendlaw21.RunRaw', WHERE WHAT IT READS IS OF BULK AT MOST 1048576: true; the input reads as it did. -/
def runRawUptoRow : OpenClaim := { program := "ytmlphohnegmgkaagreat", sum := "ab732f6a980861a0fd7e682838cc1bc159dd8749cbab5cb4db3b687154deff06", func := "stipend/stipendlaw21.RunRaw", spec := "runRaw", inPlace := ["slices.overlaps[stipend/order.State]"], unfollowed := true, recurses := true, apart := false, narrowed := true }
def RunRawUptoSaid : Prop := runRawUptoRow.holds Tryz.pinned (OpenSpec.upto runRawSpec)

/-- 'stipendlaw23.RetroClean', WHERE WHAT IT READS IS OF BULK AT MOST 1048576: true; the input reads as it did. -/
def retroCleanUptoRow : OpenClaim := { program := "ytmlphohnegmgkaagreat", sum := "ab732f6a980861a0fd7e682838cc1bc159dd8749cbab5cb4db3b687154deff06", func := "stipend/stipendlaw23.RetroClean", spec := "retroClean", inPlace := ["slices.overlaps[stipend/order.State]"], unfollowed := true, recurses := true, apart := false, narrowed := true }
def RetroCleanUptoSaid : Prop := retroCleanUptoRow.holds Tryz.pinned (OpenSpec.upto retroCleanSpec)

/-- 'stipendlaw23.RetroKeeps', WHERE WHAT IT READS IS OF BULK AT MOST 1048576: true; the input reads as it did. -/
def retroKeepsUptoRow : OpenClaim := { program := "ytmlphohnegmgkaagreat", sum := "ab732f6a980861a0fd7e682838cc1bc159dd8749cbab5cb4db3b687154deff06", func := "stipend/stipendlaw23.RetroKeeps", spec := "retroKeeps", inPlace := ["slices.overlaps[stipend/order.State]"], unfollowed := true, recurses := true, apart := false, narrowed := true }
def RetroKeepsUptoSaid : Prop := retroKeepsUptoRow.holds Tryz.pinned (OpenSpec.upto retroKeepsSpec)

/-- 'stipendlaw23.RetroPosted', WHERE WHAT IT READS IS OF BULK AT MOST 1048576: true; the input reads as it did. -/
def retroPostedUptoRow : OpenClaim := { program := "ytmlphohnegmgkaagreat", sum := "ab732f6a980861a0fd7e682838cc1bc159dd8749cbab5cb4db3b687154deff06", func := "stipend/stipendlaw23.RetroPosted", spec := "retroPosted", inPlace := ["slices.overlaps[stipend/order.State]"], unfollowed := true, recurses := true, apart := false, narrowed := true }
def RetroPostedUptoSaid : Prop := retroPostedUptoRow.holds Tryz.pinned (OpenSpec.upto retroPostedSpec)

/-- 'stipendlaw23.RetroEffect', WHERE WHAT IT READS IS OF BULK AT MOST 1048576: true; the input reads as it did. -/
def retroEffectUptoRow : OpenClaim := { program := "ytmlphohnegmgkaagreat", sum := "ab732f6a980861a0fd7e682838cc1bc159dd8749cbab5cb4db3b687154deff06", func := "stipend/stipendlaw23.RetroEffect", spec := "retroEffect", inPlace := ["slices.overlaps[stipend/order.State]"], unfollowed := true, recurses := true, apart := false, narrowed := true }
def RetroEffectUptoSaid : Prop := retroEffectUptoRow.holds Tryz.pinned (OpenSpec.upto retroEffectSpec)

/-- 'stipendlaw23.RetroUndo', WHERE WHAT IT READS IS OF BULK AT MOST 1048576: true; the input reads as it did. -/
def retroUndoUptoRow : OpenClaim := { program := "ytmlphohnegmgkaagreat", sum := "ab732f6a980861a0fd7e682838cc1bc159dd8749cbab5cb4db3b687154deff06", func := "stipend/stipendlaw23.RetroUndo", spec := "retroUndo", inPlace := ["slices.overlaps[stipend/order.State]"], unfollowed := true, recurses := true, apart := false, narrowed := true }
def RetroUndoUptoSaid : Prop := retroUndoUptoRow.holds Tryz.pinned (OpenSpec.upto retroUndoSpec)

end Rows
end Go.Proofs.YtmlphohnegmgkaaGreat
