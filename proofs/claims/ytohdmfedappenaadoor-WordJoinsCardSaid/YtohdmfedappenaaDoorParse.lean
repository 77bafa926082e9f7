/-
  Contracts of money.digit, whole and digits. Conditions as named.
-/
import Derived.Test.YtohdmfedappenaaDoorParseP
import Derived.Deep.QuietTactic
import Derived.BigQuiet
namespace Go.Proofs.YtohdmfedappenaaDoor
set_option linter.unusedVariables false
open Go.RowKit
theorem byte_gB (s : ByteArray) (k : Nat) (hk : k < s.size) : ((s[k]).toNat : Int) = gB s.data.toList k := by
  unfold gB
  have : k < s.data.toList.length := by simpa using hk
  simp [List.getD, List.getElem?_eq_getElem this]
  rfl
theorem str_facts (s : ByteArray) (h : s.size ≠ 0) : ¬ s.toList = [] ∧ s.toList.isEmpty = false := by
  have hsl : s.toList = s.data.toList := ByteArray.toList_eq s
  have hsz : s.data.toList.length = s.size := by simp
  have e1 : ¬ s.toList = [] := by rw [hsl]; intro e; rw [e] at hsz; simp at hsz; omega
  refine ⟨e1, ?_⟩
  cases hh : s.toList with
  | nil => exact absurd hh e1
  | cons a l => rfl
theorem str_none (s : ByteArray) (h : s.size = 0) : s.toList = [] ∧ s.toList.isEmpty = true := by
  have hsl : s.toList = s.data.toList := ByteArray.toList_eq s
  have hsz : s.data.toList.length = s.size := by simp
  have e1 : s.toList = [] := by rw [hsl]; exact List.eq_nil_of_length_eq_zero (by omega)
  exact ⟨e1, by rw [e1]; rfl⟩
--%%
end Go.Proofs.YtohdmfedappenaaDoor
