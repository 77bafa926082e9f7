/-
  Plain: the example's lines, words and table. No program.
-/
import Derived.Test.YtbliblhipecgfaaGreatDoorM3
namespace Go.Proofs.YtbliblhipecgfaaGreatDoor
set_option linter.unusedVariables false
open Go.RowKit
set_option maxRecDepth 100000
def linesB : ByteArray := ⟨#[108, 105, 109, 105, 116, 32, 53, 48, 48, 48, 10, 114, 111, 117, 110, 100, 32, 100, 111, 119, 110, 10, 115, 99, 104, 101, 109, 101, 32, 48, 46, 48, 48, 58, 48, 32, 49, 48, 48, 46, 48, 48, 58, 50, 48, 48, 48, 10, 99, 111, 110, 116, 114, 105, 98, 32, 104, 101, 97, 108, 116, 104, 32, 115, 111, 99, 105, 97, 108, 32, 104, 97, 108, 102, 117, 112, 32, 48, 46, 48, 48, 32, 53, 48, 48, 48, 46, 48, 48, 32, 48, 46, 48, 48, 58, 53, 48, 48, 58, 55, 48, 48, 10, 107, 105, 110, 100, 32, 115, 97, 108, 97, 114, 121, 32, 43, 32, 43, 32, 43, 10, 107, 105, 110, 100, 32, 99, 97, 114, 32, 48, 32, 43, 32, 48, 10]⟩
def trimB : ByteArray := ⟨#[108, 105, 109, 105, 116, 32, 53, 48, 48, 48, 10, 114, 111, 117, 110, 100, 32, 100, 111, 119, 110, 10, 115, 99, 104, 101, 109, 101, 32, 48, 46, 48, 48, 58, 48, 32, 49, 48, 48, 46, 48, 48, 58, 50, 48, 48, 48, 10, 99, 111, 110, 116, 114, 105, 98, 32, 104, 101, 97, 108, 116, 104, 32, 115, 111, 99, 105, 97, 108, 32, 104, 97, 108, 102, 117, 112, 32, 48, 46, 48, 48, 32, 53, 48, 48, 48, 46, 48, 48, 32, 48, 46, 48, 48, 58, 53, 48, 48, 58, 55, 48, 48, 10, 107, 105, 110, 100, 32, 115, 97, 108, 97, 114, 121, 32, 43, 32, 43, 32, 43, 10, 107, 105, 110, 100, 32, 99, 97, 114, 32, 48, 32, 43, 32, 48]⟩
def lnS : List ByteArray := [⟨#[108, 105, 109, 105, 116, 32, 53, 48, 48, 48]⟩, ⟨#[114, 111, 117, 110, 100, 32, 100, 111, 119, 110]⟩, ⟨#[115, 99, 104, 101, 109, 101, 32, 48, 46, 48, 48, 58, 48, 32, 49, 48, 48, 46, 48, 48, 58, 50, 48, 48, 48]⟩, ⟨#[99, 111, 110, 116, 114, 105, 98, 32, 104, 101, 97, 108, 116, 104, 32, 115, 111, 99, 105, 97, 108, 32, 104, 97, 108, 102, 117, 112, 32, 48, 46, 48, 48, 32, 53, 48, 48, 48, 46, 48, 48, 32, 48, 46, 48, 48, 58, 53, 48, 48, 58, 55, 48, 48]⟩, ⟨#[107, 105, 110, 100, 32, 115, 97, 108, 97, 114, 121, 32, 43, 32, 43, 32, 43]⟩, ⟨#[107, 105, 110, 100, 32, 99, 97, 114, 32, 48, 32, 43, 32, 48]⟩]
theorem trim_eq : (⟨(Lib.trimSuffix linesB.data.toList [10]).toArray⟩ : ByteArray) = trimB := by decide +kernel
theorem split_eq : Lib.splitB ⟨#[10]⟩ 0 (Lib.countB trimB ⟨#[10]⟩) trimB = lnS := by decide +kernel
theorem count_eq : Lib.countB trimB ⟨#[10]⟩ + 1 = 6 := by decide +kernel
def bdW (k : Nat) : List (List UInt8) := (cutR (lnS.getD k st0).data.toList).2
def bdSt : Nat → Tb
  | 0 => tb0
  | k + 1 => putW (bdSt k) (bdW k)
def T0 : Tb := ⟨[[⟨0, 0, 0⟩, ⟨10000, 2000, 0⟩]], [⟨⟨#[104, 101, 97, 108, 116, 104]⟩, 2, [⟨0, 500, 700⟩], 0, 500000, 4⟩], [⟨⟨#[115, 97, 108, 97, 114, 121]⟩, 1, 1, 1⟩, ⟨⟨#[99, 97, 114]⟩, 0, 1, 0⟩], 5000, 1⟩
theorem bd_cut : ∀ k, k < 6 → (cutR (lnS.getD k st0).data.toList).1 = 0 := by decide +kernel
theorem bd_put : ∀ k, k < 6 → putE (bdW k).length (wsB (bdW k)) = 0 := by decide +kernel
theorem bd_size : ∀ k, k < 6 → (bdW k).length ≤ 10 ∧ ∀ x ∈ wsB (bdW k), x.size ≤ 20 := by decide +kernel
theorem bd_len : ∀ k, k < 7 → (bdSt k).sch.length ≤ 10 ∧ (bdSt k).cts.length ≤ 10 ∧ (bdSt k).kds.length ≤ 10 ∧ (∀ x ∈ (bdSt k).sch, x.length ≤ 10) ∧ (∀ x ∈ (bdSt k).cts, x.bands.length ≤ 10) := by decide +kernel
theorem bd_end : bdSt 6 = T0 := by rfl
theorem T0_ok : tbE T0 = 0 := by decide +kernel
theorem T0_lines : (mkB (Lib.join ((tbL T0).map (·.data.toList)) [10]) ++ ⟨#[10]⟩ : ByteArray) = linesB := by decide +kernel
end Go.Proofs.YtbliblhipecgfaaGreatDoor
