/-
  Plain: whole numbers of digits, and an amount of words. No program.
-/
import Derived.Test.YtfhbnojhmeodiaaDoorText
namespace Go.Proofs.YtfhbnojhmeodiaaDoor
set_option linter.unusedVariables false
open Go.RowKit
def dI (c : Int) : Bool := decide (48 ≤ c ∧ c ≤ 57)
def gB (l : List UInt8) (i : Nat) : Int := ((l.getD i 0).toNat : Int)
theorem gB_bd (l : List UInt8) (i : Nat) : 0 ≤ gB l i ∧ gB l i ≤ 255 := by
  unfold gB
  have := (l.getD i 0).toNat_lt
  omega
/-- the number of the first k digits -/
def wV (l : List UInt8) : Nat → Int
  | 0 => 0
  | k + 1 => 10 * wV l k + (gB l k - 48)
/-- are the first n bytes digits? -/
def dTo (l : List UInt8) (n : Nat) : Bool := (List.range n).all fun i => dI (gB l i)
theorem dTo_iff {l : List UInt8} {n : Nat} : dTo l n = true ↔ ∀ i, i < n → dI (gB l i) = true := by
  unfold dTo
  rw [List.all_eq_true]
  exact ⟨fun h i hi => h i (List.mem_range.2 hi), fun h i hi => h i (List.mem_range.1 hi)⟩
theorem dTo_no {l : List UInt8} {n k : Nat} (hk : k < n) (h : dI (gB l k) = false) : dTo l n = false := by
  cases hh : dTo l n with
  | false => rfl
  | true => rw [dTo_iff.1 hh k hk] at h; cases h
theorem dTo_step {l : List UInt8} {k : Nat} (h : dTo l k = true) (h2 : dI (gB l k) = true) : dTo l (k + 1) = true := by
  rw [dTo_iff] at *
  intro i hi
  rcases (by omega : i = k ∨ i < k) with rfl | hi
  · exact h2
  · exact h i hi
theorem wV_bd (l : List UInt8) : ∀ k, dTo l k = true → 0 ≤ wV l k ∧ wV l k < 10 ^ k := by
  intro k
  induction k with
  | zero => intro _; simp [wV]
  | succ k ih =>
    intro h
    have h1 := ih (dTo_iff.2 fun i hi => dTo_iff.1 h i (by omega))
    have h2 := dTo_iff.1 h k (by omega)
    unfold dI at h2
    simp only [decide_eq_true_eq] at h2
    rw [wV, Int.pow_succ]
    omega
theorem pow_le18 (k : Nat) (h : k ≤ 18) : (10 : Int) ^ k ≤ 1000000000000000000 := by
  have : (10 : Nat) ^ k ≤ 10 ^ 18 := Nat.pow_le_pow_right (by decide) h
  have h2 : ((10 ^ k : Nat) : Int) ≤ ((10 ^ 18 : Nat) : Int) := by exact_mod_cast this
  rw [Int.natCast_pow] at h2
  simpa using h2
theorem pow_le12 (k : Nat) (h : k ≤ 12) : (10 : Int) ^ k ≤ 1000000000000 := by
  have : (10 : Nat) ^ k ≤ 10 ^ 12 := Nat.pow_le_pow_right (by decide) h
  have h2 : ((10 ^ k : Nat) : Int) ≤ ((10 ^ 12 : Nat) : Int) := by exact_mod_cast this
  rw [Int.natCast_pow] at h2
  simpa using h2
/-- money.whole -/
def whO (l : List UInt8) : Bool := dTo l l.length && decide (l.length ≠ 0) && (decide (l.length = 1) || decide (gB l 0 ≠ 48))
def whV (l : List UInt8) : Int := if dTo l l.length = true then wV l l.length else 0
/-- money.Parse of what is behind the sign -/
def pCut (l : List UInt8) : Bool := decide (3 < l.length) && decide (gB l (l.length - 3) = 46)
def pCoins (l : List UInt8) : Int := if pCut l = true then (gB l (l.length - 2) - 48) * 10 + (gB l (l.length - 1) - 48) else 0
def pRest (l : List UInt8) : List UInt8 := if pCut l = true then l.take (l.length - 3) else l
def pE (neg : Bool) (l : List UInt8) : Int :=
  if 20 < l.length then 5
  else if pCut l = true ∧ ¬ (dI (gB l (l.length - 2)) = true ∧ dI (gB l (l.length - 1)) = true) then 5
  else if 12 < (pRest l).length then (if whO ((pRest l).take 12) = true ∧ dTo (pRest l) (pRest l).length = true then 10 else 5)
  else if ¬ (whO (pRest l) = true) ∨ (neg = true ∧ whV (pRest l) = 0 ∧ pCoins l = 0) then 5
  else if mrB ((if neg then -1 else 1) * (whV (pRest l) * 100 + pCoins l)) = true then 0 else 10
def pV (neg : Bool) (l : List UInt8) : Int := if pE neg l = 0 then (if neg then -1 else 1) * (whV (pRest l) * 100 + pCoins l) else 0
def pNeg (l : List UInt8) : Bool := decide (0 < l.length) && decide (gB l 0 = 45)
def pBody (l : List UInt8) : List UInt8 := if pNeg l = true then l.drop 1 else l
def parseE (l : List UInt8) : Int := pE (pNeg l) (pBody l)
def parseV (l : List UInt8) : Int := pV (pNeg l) (pBody l)
end Go.Proofs.YtfhbnojhmeodiaaDoor
