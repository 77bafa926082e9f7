/-
  Plain: a year of codes that fit and of amounts that aren't great: nothing is refused. No program.
-/
import Derived.Test.YtankoappneglcaaSprP
import Derived.Test.YtankoappneglcaaYearB
namespace Go.Proofs.Ytankoappneglcaa
set_option linter.unusedVariables false
open Go.RowKit
/-- an amount that isn't great, by a code that may be -/
def GoodSt (sch : List (List Bd)) (z : St) : Prop := -1000000000 ≤ z.x ∧ z.x ≤ 1000000000 ∧ fitE sch z.c = 0
theorem free_part (c : Cd) (nom : Int) (h : codeErr c.s c.k c.a c.f = 0) (hn : 12 ≤ nom) : -83333250 ≤ freeI c.k c.a 1 nom := by
  have ha := code_a c.s c.k c.a c.f h
  have h1 : c.a * 1 / nom ≤ 83333250 := Int.ediv_le_of_le_mul (by omega) (by omega)
  have h2 : 0 ≤ c.a * 1 / nom := Int.ediv_nonneg (by omega) (by omega)
  unfold freeI
  split <;> omega
theorem charge_part (sch : List (List Bd)) (c : Cd) (x nom : Int) (hfit : fitE sch c = 0) (hn : 12 ≤ nom) : chargeV c x 1 nom ≤ max 0 x + 83333250 := by
  have := free_part c nom (fit_ok hfit).1 hn
  unfold chargeV
  split <;> omega
theorem sumX_bd (l : List St) (n : Nat) (h : ∀ j, j < n → -1000000000 ≤ (l.getD j st0).x ∧ (l.getD j st0).x ≤ 1000000000) : ∀ k, k ≤ n → -(k * 1000000000 : Int) ≤ sumX l k ∧ sumX l k ≤ k * 1000000000 := by
  intro k
  induction k with
  | zero => intro _; simp [sumX]
  | succ k ih =>
    intro hk
    have h1 := ih (by omega)
    have h2 := h k (by omega)
    rw [sumX]
    omega
section
variable {sch : List (List Bd)} {rnd nom : Int}
theorem next_good (hok : ∀ k, k < sch.length → bandsErr (sch.getD k []) = 0) (hnom : 12 ≤ nom ∧ nom ≤ 1000) (k : Nat) (z : St) (hz : GoodSt sch z) (S ah : Int) (hk : k < 60) (hS : -((k + 1) * 1000000000 : Int) ≤ S ∧ S ≤ (k + 1) * 1000000000) (ha : 0 ≤ ah ∧ ah ≤ k * 1100000000 + 1000000000) :
    nextE sch rnd nom ((k : Int) + 1) z S ah = 0 ∧ 0 ≤ nextV sch rnd nom ((k : Int) + 1) z S ah ∧ nextV sch rnd nom ((k : Int) + 1) z S ah ≤ (k + 1) * 1100000000 + 1000000000 := by
  obtain ⟨hx0, hx1, hfit⟩ := hz
  cases hal : z.c.al
  · have hp : partB (min ((k : Int) + 1) nom) nom = true := partB_iff.2 (by omega)
    have hz := exE_zero2 hfit hp S (by omega) (by omega)
    have hd := due_bd sch rnd z.c S (min ((k : Int) + 1) nom) nom hok hz
    have hc := charge_bd sch z.c S (min ((k : Int) + 1) nom) nom hfit hp
    unfold nextE nextV
    rw [if_pos hal, if_pos hal]
    exact ⟨hz, hd.1, by omega⟩
  · have hp : partB 1 nom = true := partB_iff.2 (by omega)
    have hz := exE_zero2 hfit hp z.x (by omega) (by omega)
    have hd := due_bd sch rnd z.c z.x 1 nom hok hz
    have hc := charge_part sch z.c z.x nom hfit hnom.1
    have m : mrB ah = true ∧ mrB (dueV sch rnd z.c z.x 1 nom) = true ∧ mrB (ah + dueV sch rnd z.c z.x 1 nom) = true := ⟨mr_t (by omega), mr_t (by omega), mr_t (by omega)⟩
    have hna : ¬ z.c.al = false := by rw [hal]; decide
    have e1 : nextE sch rnd nom ((k : Int) + 1) z S ah = 0 := by
      unfold nextE
      rw [if_neg hna, if_neg (show ¬ exE sch z.c z.x 1 nom ≠ 0 by simpa using hz), if_pos m]
    have e2 : nextV sch rnd nom ((k : Int) + 1) z S ah = ah + dueV sch rnd z.c z.x 1 nom := by
      unfold nextV
      rw [if_neg hna]
    rw [e1, e2]
    exact ⟨rfl, by omega, by omega⟩
theorem year_good (hok : ∀ k, k < sch.length → bandsErr (sch.getD k []) = 0) (hnom : 12 ≤ nom ∧ nom ≤ 1000) (l : List St) (n : Nat) (hn : n ≤ 60) (h : ∀ j, j < n → GoodSt sch (l.getD j st0)) : ∀ k, k ≤ n → (0 ≤ dueA sch rnd nom l k ∧ dueA sch rnd nom l k ≤ k * 1100000000 + 1000000000) ∧ ∀ j, j < k → yE sch rnd nom l j = 0 := by
  have hb := sumX_bd l n (fun j hj => ⟨(h j hj).1, (h j hj).2.1⟩)
  intro k
  induction k with
  | zero => intro _; exact ⟨by simp [dueA], fun j hj => by omega⟩
  | succ k ih =>
    intro hk
    obtain ⟨h1, h2⟩ := ih (by omega)
    have hg := h k (by omega)
    have e : sumX l (k + 1) = sumX l k + (l.getD k st0).x := rfl
    have hS := hb (k + 1) hk
    have hS0 := hb k (by omega)
    have hnx := next_good (rnd := rnd) hok hnom k (l.getD k st0) hg (sumX l (k + 1)) (dueA sch rnd nom l k) (by omega) (by omega) h1
    refine ⟨?_, fun j hj => ?_⟩
    · have e2 : dueA sch rnd nom l (k + 1) = nextV sch rnd nom ((k : Int) + 1) (l.getD k st0) (sumX l (k + 1)) (dueA sch rnd nom l k) := rfl
      rw [e2]
      have := hnx.2
      omega
    · rcases (by omega : j = k ∨ j < k) with rfl | hj
      · unfold yE
        have hx := hg.1
        have hx2 := hg.2.1
        rw [if_pos ⟨mr_t (by omega), mr_t (by omega), mr_t (by rw [← e]; omega)⟩, ← e]
        exact hnx.1
      · exact h2 j hj
theorem year_unfit (l : List St) (i : Nat) (hi : i < 60) (h : ∀ j, j < i → GoodSt sch (l.getD j st0)) (hx : -1000000000 ≤ (l.getD i st0).x ∧ (l.getD i st0).x ≤ 1000000000) (hf : fitE sch (l.getD i st0).c ≠ 0) : yE sch rnd nom l i = fitE sch (l.getD i st0).c := by
  have hb := sumX_bd l (i + 1) (fun j hj => by
    rcases (by omega : j = i ∨ j < i) with rfl | hj
    · exact hx
    · exact ⟨(h j hj).1, (h j hj).2.1⟩)
  have h1 := hb i (by omega)
  have h2 := hb (i + 1) (by omega)
  have e : sumX l (i + 1) = sumX l i + (l.getD i st0).x := rfl
  unfold yE
  rw [if_pos ⟨mr_t (by omega), mr_t (by omega), mr_t (by rw [← e]; omega)⟩]
  unfold nextE
  have hE : ∀ tx n d, exE sch (l.getD i st0).c tx n d = fitE sch (l.getD i st0).c := fun tx n d => if_pos hf
  split
  · exact hE _ _ _
  · rw [if_pos (by rw [hE]; exact hf)]; exact hE _ _ _
end
/-- what tax.Year answers -/
def YC (sch : List (List Bd)) (rnd nom : Int) (l : List St) (n : Nat) (w : World) (A : Option Addr) (m : Nat) (e0 : Int) : Prop :=
  ((∀ k, k < n → yE sch rnd nom l k = 0) ∧ e0 = 0 ∧ m = n ∧ I64Sl w A n (dueL sch rnd nom l n)) ∨ (∃ k, k < n ∧ (∀ j, j < k → yE sch rnd nom l j = 0) ∧ yE sch rnd nom l k ≠ 0 ∧ e0 = yE sch rnd nom l k ∧ m = 0)
theorem YC.of {sch : List (List Bd)} {rnd nom : Int} {l : List St} {n : Nat} {w w' : World} {e : Ending} (h : TYearR sch rnd nom l n w e w') : (∃ A m c e0, e = .returned (.tuple #[.slice A m c, .int .i64 e0]) ∧ YC sch rnd nom l n w' A m e0) ∧ Below w.heap.size w w' := by
  obtain ⟨⟨h1, v, rfl, hv⟩ | ⟨k, hk, h1, h2, rfl⟩, hb⟩ := h
  · obtain ⟨A, c, rfl, _, hs⟩ := hv.sl
    exact ⟨⟨A, n, c, 0, rfl, Or.inl ⟨h1, rfl, rfl, hs⟩⟩, hb⟩
  · exact ⟨⟨none, 0, 0, _, rfl, Or.inr ⟨k, hk, h1, h2, rfl, rfl⟩⟩, hb⟩
theorem YC.bad {sch : List (List Bd)} {rnd nom : Int} {l : List St} {n : Nat} {w : World} {A : Option Addr} {m : Nat} {e0 : Int} (h : YC sch rnd nom l n w A m e0) (i : Nat) (hi : i < n) (h1 : ∀ j, j < i → yE sch rnd nom l j = 0) (h2 : yE sch rnd nom l i ≠ 0) : e0 = yE sch rnd nom l i ∧ m = 0 := by
  rcases h with ⟨ha, _⟩ | ⟨k, hk, hb1, hb2, he, hm⟩
  · exact absurd (ha i hi) h2
  · have : k = i := by
      rcases Nat.lt_trichotomy k i with hl | he | hl
      · exact absurd (h1 k hl) hb2
      · exact he
      · exact absurd (hb1 i hl) h2
    subst this
    exact ⟨he, hm⟩
theorem YC.good {sch : List (List Bd)} {rnd nom : Int} {l : List St} {n : Nat} {w : World} {A : Option Addr} {m : Nat} {e0 : Int} (h : YC sch rnd nom l n w A m e0) (h1 : ∀ j, j < n → yE sch rnd nom l j = 0) : e0 = 0 ∧ m = n ∧ I64Sl w A n (dueL sch rnd nom l n) := by
  rcases h with ⟨_, h⟩ | ⟨k, hk, _, hb2, _⟩
  · exact h
  · exact absurd (h1 k hk) hb2
end Go.Proofs.Ytankoappneglcaa
