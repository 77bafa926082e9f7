/-
  Contracts of package band. Conditions as named.
-/
import Derived.Test.YtbpdgkaohfmabaaDoorFrac
import Derived.Test.YtbpdgkaohfmabaaDoorBandP
import Derived.Outline
import Derived.WalkMore
import Derived.ScopeJumps
import Derived.Deep.QuietTactic
import Derived.Deep.RegionHeld3
import Derived.BigQuiet
import Derived.WalkSmall
import Derived.Deep.DeepCutAuto
namespace Go.Proofs.YtbpdgkaohfmabaaDoor
set_option linter.unusedVariables false
open Go.RowKit

/-- a band: from which amount on, the employee's rate and the employer's -/
structure Bd where
  f : Int
  r : Int
  e : Int
def bd0 : Bd := ⟨0, 0, 0⟩
/-- the cells of a list of bands -/
def BandsAt (w : World) (b off : Nat) (l : List Bd) : Prop := ∀ k, k < l.length → w.cell? ⟨b, off + k * 3, none⟩ = some (.int .i64 (l.getD k bd0).f) ∧ w.cell? ⟨b, off + k * 3 + 1, none⟩ = some (.int .i64 (l.getD k bd0).r) ∧ w.cell? ⟨b, off + k * 3 + 2, none⟩ = some (.int .i64 (l.getD k bd0).e)
/-- the first answer that isn't 0, of those ahead of n -/
def firstNZ (f : Nat → Int) : Nat → Int
  | 0 => 0
  | n + 1 => if firstNZ f n ≠ 0 then firstNZ f n else f n
theorem firstNZ_stop (f : Nat → Int) (k n : Nat) (h0 : firstNZ f k = 0) (hk : f k ≠ 0) (hn : k < n) : firstNZ f n = f k := by
  induction n with
  | zero => omega
  | succ n ih =>
    unfold firstNZ
    by_cases e : k = n
    · subst e; simp [h0]
    · have := ih (by omega)
      rw [this]
      simp [hk]
theorem firstNZ_step (f : Nat → Int) (k : Nat) (h0 : firstNZ f k = 0) (hk : f k = 0) : firstNZ f (k + 1) = 0 := by
  unfold firstNZ
  simp [h0, hk]
theorem firstNZ_all (f : Nat → Int) (n : Nat) (h : firstNZ f n = 0) : ∀ k, k < n → f k = 0 := by
  induction n with
  | zero => intro k hk; omega
  | succ n ih =>
    unfold firstNZ at h
    by_cases e : firstNZ f n = 0
    · simp [e] at h
      intro k hk
      rcases (by omega : k = n ∨ k < n) with rfl | hk
      · exact h
      · exact ih e k hk
    · simp [e] at h
/-- what is wrong with a band, the one ahead of it beginning at pf -/
def bandV (k : Nat) (pf xf xr xe : Int) : Int :=
  if xf < 0 ∨ 100000000000 < xf ∨ (k = 0 ∧ xf ≠ 0) then 1
  else if 0 < k ∧ xf ≤ pf then 6
  else if ¬ (rateB xr = true ∧ rateB xe = true) then 50
  else 0
/-- what is wrong with the band at a place -/
def bandAt (l : List Bd) (k : Nat) : Int := bandV k (l.getD (k - 1) bd0).f (l.getD k bd0).f (l.getD k bd0).r (l.getD k bd0).e
def bandsErr (l : List Bd) : Int := if l.length = 0 ∨ 8 < l.length then 2 else firstNZ (bandAt l) l.length
--%%
/-- a slice of bands: nil or not -/
def BandSl (w : World) (A : Option Addr) (n : Nat) (l : List Bd) : Prop := n = l.length ∧ n ≤ 9223372036854775807 ∧ (0 < n → ∃ b off, A = some ⟨b, off, none⟩ ∧ b < w.heap.size ∧ BandsAt w b off l)
theorem BandsAt.below {w w' : World} {b off : Nat} {l : List Bd} (h : BandsAt w b off l) (hlt : b < w.heap.size) (hb : Below w.heap.size w w') : BandsAt w' b off l := fun k hk => by
  obtain ⟨c0, c1, c2⟩ := h k hk
  exact ⟨(hb.cell (p := ⟨b, _, none⟩) hlt).trans c0, (hb.cell (p := ⟨b, _, none⟩) hlt).trans c1, (hb.cell (p := ⟨b, _, none⟩) hlt).trans c2⟩
theorem BandSl.below {w w' : World} {A : Option Addr} {n : Nat} {l : List Bd} (h : BandSl w A n l) (hb : Below w.heap.size w w') : BandSl w' A n l := by
  obtain ⟨h1, h2, h3⟩ := h
  refine ⟨h1, h2, fun hn => ?_⟩
  obtain ⟨b, off, hA, hlt, hc⟩ := h3 hn
  refine ⟨b, off, hA, Nat.lt_of_lt_of_le hlt hb.size, fun k hk => ?_⟩
  obtain ⟨c0, c1, c2⟩ := hc k hk
  exact ⟨(hb.cell (p := ⟨b, _, none⟩) hlt).trans c0, (hb.cell (p := ⟨b, _, none⟩) hlt).trans c1, (hb.cell (p := ⟨b, _, none⟩) hlt).trans c2⟩
--%%
end Go.Proofs.YtbpdgkaohfmabaaDoor
