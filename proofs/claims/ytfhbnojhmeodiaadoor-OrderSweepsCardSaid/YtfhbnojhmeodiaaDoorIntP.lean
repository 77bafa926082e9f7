/-
  Whole numbers of words. No program, no conditions beyond those named.
-/
import Derived.Test.YtfhbnojhmeodiaaDoorParseP
import Derived.Lib.Strings
import Derived.Lib.Atoi
namespace Go.Proofs.YtfhbnojhmeodiaaDoor
set_option linter.unusedVariables false
/-- a minus ahead; what is behind it -/
def inM (l : List UInt8) : Bool := decide (l ≠ []) && decide (gB l 0 = 45)
def inN (l : List UInt8) : List UInt8 := if inM l = true then l.drop 1 else l
/-- why a word is no whole number; the number that it is -/
def inE (l : List UInt8) : Int :=
  if inN l = [] then 5 else if (1 < (inN l).length ∨ inM l = true) ∧ gB (inN l) 0 = 48 then 5 else if dTo (inN l) (inN l).length = false then 5 else if 9 < (inN l).length then 1 else 0
def inV (l : List UInt8) : Int := if inE l = 0 then (if inM l = true then - wV (inN l) (inN l).length else wV (inN l) (inN l).length) else 0
theorem inN_trim (l : List UInt8) : Lib.trimPrefix l [45] = inN l := by
  unfold inN inM Lib.trimPrefix Lib.hasPrefix
  cases l with
  | nil => rfl
  | cons c r =>
    by_cases h : c = 45
    · subst h; simp [List.isPrefixOf, gB, List.getD]
    · have h2 : ¬ (gB (c :: r) 0 = 45) := by
        unfold gB
        intro e
        apply h
        apply UInt8.toNat_inj.1
        simp [List.getD] at e
        show c.toNat = 45
        omega
      have h3 : ((45 : UInt8) == c) = false := by simp; exact fun e => h e.symm
      simp [List.isPrefixOf, h2, h3]
theorem minus0 (l : List UInt8) : (l == [45, 48]) = (inM l && (decide ((inN l).length = 1) && decide (gB (inN l) 0 = 48))) := by
  rw [Bool.eq_iff_iff]
  simp only [Bool.and_eq_true, decide_eq_true_eq, beq_iff_eq]
  constructor
  · rintro rfl
    refine ⟨by decide, by decide, by decide⟩
  · rintro ⟨h1, h2, h3⟩
    cases l with
    | nil => simp [inM] at h1
    | cons c r =>
      have hn : inN (c :: r) = r := by unfold inN; rw [h1]; rfl
      rw [hn] at h2 h3
      have hc : c = 45 := by
        unfold inM gB at h1
        simp [List.getD] at h1
        exact UInt8.toNat_inj.1 (by show c.toNat = 45; omega)
      match r, h2, h3 with
      | [x], _, h3 =>
        have hx : x = 48 := by
          unfold gB at h3
          simp [List.getD] at h3
          exact UInt8.toNat_inj.1 (by show x.toNat = 48; omega)
        rw [hc, hx]
theorem digitVal_gB {l : List UInt8} {k : Nat} (hk : k < l.length) (h : dI (gB l k) = true) : Lib.digitVal (l[k]'hk) = some (gB l k - 48).toNat := by
  have e : gB l k = (l[k].toNat : Int) := by unfold gB; simp [List.getD, List.getElem?_eq_getElem hk]
  unfold dI at h
  simp at h
  unfold Lib.digitVal
  rw [if_pos (by omega), e]
  congr 1
  omega
theorem decFrom_wV (l : List UInt8) : ∀ k, k ≤ l.length → dTo l k = true → Lib.decFrom 0 (l.take k) = some (wV l k).toNat := by
  intro k
  induction k with
  | zero => intro _ _; rfl
  | succ k ih =>
    intro hk h
    have h1 : dTo l k = true := dTo_iff.2 fun i hi => dTo_iff.1 h i (by omega)
    have h2 := dTo_iff.1 h k (by omega)
    have := Lib.decFrom_take l k 0 _ (l[k]'(by omega)) _ (ih (by omega) h1) (List.getElem?_eq_getElem (by omega)) (digitVal_gB (by omega) h2)
    rw [this, wV]
    congr 1
    have b := (wV_bd l k h1).1
    unfold dI at h2
    simp at h2
    omega
theorem decNat_wV {l : List UInt8} (h0 : l ≠ []) (h : dTo l l.length = true) : Lib.decNat l = some (wV l l.length).toNat := by
  have := decFrom_wV l l.length (Nat.le_refl _) h
  rw [List.take_length] at this
  unfold Lib.decNat
  cases l with
  | nil => exact absurd rfl h0
  | cons c r => exact this
/-- the library reads it so -/
theorem atoi_in {l : List UInt8} (h : inE l = 0) : Lib.atoi l = some (inV l) := by
  have hv : inV l = if inM l = true then - wV (inN l) (inN l).length else wV (inN l) (inN l).length := by unfold inV; rw [if_pos h]
  unfold inE at h
  by_cases h1 : inN l = []
  · rw [if_pos h1] at h; cases h
  rw [if_neg h1] at h
  by_cases h2 : (1 < (inN l).length ∨ inM l = true) ∧ gB (inN l) 0 = 48
  · rw [if_pos h2] at h; cases h
  rw [if_neg h2] at h
  by_cases h3 : dTo (inN l) (inN l).length = false
  · rw [if_pos h3] at h; cases h
  have h3' : dTo (inN l) (inN l).length = true := by simpa using h3
  have hd := decNat_wV h1 h3'
  have hb := (wV_bd (inN l) (inN l).length h3').1
  rw [hv]
  cases hm : inM l
  · have hn : inN l = l := by unfold inN; rw [hm]; rfl
    rw [hn] at hd hb h3' h1 ⊢
    cases l with
    | nil => exact absurd rfl h1
    | cons c r =>
      have hc : dI (gB (c :: r) 0) = true := dTo_iff.1 h3' 0 (by simp)
      have hc' : 48 ≤ c.toNat ∧ c.toNat ≤ 57 := by
        unfold dI gB at hc; simp [List.getD] at hc; omega
      have n1 : (c == 45) = false := by simp; rintro rfl; revert hc'; decide
      have n2 : (c == 43) = false := by simp; rintro rfl; revert hc'; decide
      have ht := Int.toNat_of_nonneg hb
      simp only [Lib.atoi, n1, n2, hd, Option.map_some, ht]
      simp
  · have hn : inN l = l.drop 1 := by unfold inN; rw [hm]; rfl
    cases l with
    | nil => simp [inM] at hm
    | cons c r =>
      have hc : c = 45 := by
        unfold inM gB at hm
        simp [List.getD] at hm
        exact UInt8.toNat_inj.1 (by show c.toNat = 45; omega)
      subst hc
      rw [hn] at hd hb ⊢
      rw [show (List.drop 1 (45 :: r)) = r from rfl] at hd hb ⊢
      have ht := Int.toNat_of_nonneg hb
      simp only [Lib.atoi, hd, Option.map_some, ht]
      simp
end Go.Proofs.YtfhbnojhmeodiaaDoor
