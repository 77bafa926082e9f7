/-
  Contract of money.Text. Conditions as named.
-/
import Derived.Test.YtohdmfedappenaaDoorFmt
import Derived.Laws.Concat
namespace Go.Proofs.YtohdmfedappenaaDoor
set_option linter.unusedVariables false
open Go.RowKit
/-- an amount as it is written: its size, and whether it is negative -/
def textI (a : Int) (neg : Bool) : List UInt8 := (if neg then [45] else []) ++ (Lib.decDigits (a / 100).toNat ++ [46] ++ (if a % 100 < 10 then [48] else []) ++ Lib.decDigits (a % 100).toNat)
theorem dec_len (u : Nat) (hu : u < 18446744073709551616) : (Lib.decDigits u).length ≤ 20 := by
  by_cases h0 : u = 0
  · subst h0; rw [Lib.decDigits_one (by decide)]; decide
  · rw [Lib.decDigits_length]
    have := Lib.numDigits_eq u (by omega) hu
    split at this <;> omega
theorem str_eq {a : ByteArray} {l : List UInt8} (h : a.data.toList = l) : Ending.returned (.string a) = .returned (.string ⟨l.toArray⟩) := by
  subst h
  rfl
def textB (x : Int) : List UInt8 := textI x.natAbs (decide (x < 0))
--%%
end Go.Proofs.YtohdmfedappenaaDoor
