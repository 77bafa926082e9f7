/-
  Layer 13's laws: the walk of the example that is asked first. Conditions as named.
-/
import Derived.Test.YtlfeppbhicmeoaaLaw13
import Derived.Deep.RegionHeld3
namespace Go.Proofs.Ytlfeppbhicmeoaa
set_option linter.unusedVariables false
open Go.RowKit
/-- the example's year, whatever was paid: what tax.Year answers -/
theorem ex_year (As Ak A : Option Addr) (c : Nat) (g : Nat) (w : World) (hs : ScSl w As 1 simS) (hy : YrAt w g 4 365) (hl : StSl w A 3 exL) :
    Calls Try.prog 15 #[.agg #[.slice As 1 1, .slice none 0 0, .slice Ak 1 1, .int .i64 5000, .int .i64 1], .pointer (some ⟨g, 0, none⟩), .slice A 3 c] w fun e w' => (∃ b off c2, e = .returned (.tuple #[.slice (some ⟨b, off, none⟩) 3 c2, .int .i64 0]) ∧ w'.cell? ⟨b, off, none⟩ = some (.int .i64 800) ∧ w'.cell? ⟨b, off + 1, none⟩ = some (.int .i64 1600) ∧ w'.cell? ⟨b, off + 2, none⟩ = some (.int .i64 3600) ∧ b < w'.heap.size) ∧ Below w.heap.size w w' := by
  refine (tyear_c simS As none Ak A 1 1 0 0 1 1 3 c 5000 1 4 365 (by decide) (by decide) g exL w hs ex_ok (by decide) hy hl (by decide) (by decide)).mono ?_
  rintro e w' ⟨⟨_, v, rfl, hv⟩ | ⟨k, hk, _, hn, _⟩, hb⟩
  · refine ⟨?_, hb⟩
    rw [show nomI 4 = 12 from rfl, ex_dueL] at hv
    obtain ⟨A2, c2, rfl, _, h1, h2, h3⟩ := hv.sl
    obtain ⟨b, off, rfl, hlt, hc⟩ := h3 (by decide)
    exact ⟨b, off, c2, rfl, hc 0 (by decide), hc 1 (by decide), hc 2 (by decide), hlt⟩
  · exact absurd (ex_yE k hk) hn
theorem ex_rate (As Ak : Option Addr) (w : World) (hs : ScSl w As 1 simS) :
    Calls Try.prog 26 #[.agg #[.slice As 1 1, .slice none 0 0, .slice Ak 1 1, .int .i64 5000, .int .i64 1], .agg #[.int .i64 0, .int .i64 1, .int .i64 12000, .int .i64 0, .bool false], .int .i64 11000, .int .i64 1, .int .i64 12] w fun e w' => e = .returned (.tuple #[.int .i64 4000, .int .i64 0]) ∧ Below w.heap.size w w' := by
  have h := trate_t simS As none Ak 1 1 0 0 1 1 5000 1 0 1 12000 0 false 11000 1 12 w hs ex_ok (by decide) ex_r0 ex_r1
  rw [show exV simS ⟨0, 1, 12000, 0, false⟩ (11000 + 1) 1 12 - exV simS ⟨0, 1, 12000, 0, false⟩ 11000 1 12 = 4000 from ex_r2] at h
  exact h
theorem ex_corn (As Ak : Option Addr) (w : World) (hs : ScSl w As 1 simS) :
    Calls Try.prog 25 #[.agg #[.slice As 1 1, .slice none 0 0, .slice Ak 1 1, .int .i64 5000, .int .i64 1], .agg #[.int .i64 0, .int .i64 1, .int .i64 12000, .int .i64 0, .bool false], .int .i64 1, .int .i64 12] w fun e w' => (∃ b off c2, e = .returned (.tuple #[.slice (some ⟨b, off, none⟩) 2 c2, .int .i64 0]) ∧ w'.cell? ⟨b, off, none⟩ = some (.int .i64 1000) ∧ w'.cell? ⟨b, off + 1, none⟩ = some (.int .i64 11000) ∧ b < w'.heap.size) ∧ Below w.heap.size w w' := by
  refine (tcorn_t simS As none Ak 1 1 0 0 1 1 5000 1 0 1 12000 0 false 1 12 w hs ex_ok ex_c0).mono ?_
  rintro e w' ⟨⟨v, m, rfl, hv⟩, hb⟩
  refine ⟨?_, hb⟩
  rw [show cornV simS ⟨0, 1, 12000, 0, false⟩ 1 12 = [1000, 11000] from ex_c1] at hv
  have hm : m = 2 := hv.1
  subst hm
  obtain ⟨A2, c2, rfl, _, h1, h2, h3⟩ := hv.sl
  obtain ⟨b, off, rfl, hlt, hc⟩ := h3 (by decide)
  exact ⟨b, off, c2, rfl, hc 0 (by decide), hc 1 (by decide), hlt⟩
--%%
end Go.Proofs.Ytlfeppbhicmeoaa
