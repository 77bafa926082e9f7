/-
  Contracts of package money. Conditions as named.
-/
import Derived.Test.YtankoappneglcaaChecked
import Derived.Test.YtankoappneglcaaVoc
import Derived.Outline
import Derived.Deep.QuietTactic
import Derived.BigQuiet
namespace Go.Proofs.Ytankoappneglcaa
set_option linter.unusedVariables false
open Go.RowKit

/-- may an amount be? -/
def mrB (x : Int) : Bool := decide (-100000000000 ≤ x ∧ x ≤ 100000000000)
theorem mr_t {x : Int} (h : -100000000000 ≤ x ∧ x ≤ 100000000000) : mrB x = true := by simp [mrB]; omega
theorem mr_f {x : Int} (h : ¬ (-100000000000 ≤ x ∧ x ≤ 100000000000)) : mrB x = false := by simp [mrB]; omega
theorem mr_iff {x : Int} : mrB x = true ↔ (-100000000000 ≤ x ∧ x ≤ 100000000000) := by simp [mrB]
theorem mr_not {x : Int} : mrB x = false ↔ ¬ (-100000000000 ≤ x ∧ x ≤ 100000000000) := by simp [mrB]
--%%
theorem right_any (b off c n : Nat) (l : List Int) (w : World) (hn : n = l.length) (hl : n ≤ 9223372036854775807) (hc : ∀ k, k < n → w.cell? ⟨b, off + k, none⟩ = some (.int .i64 (l.getD k 0))) :
    Calls Try.prog 44 #[.slice (some ⟨b, off, none⟩) n c] w fun e w' => e = .returned (.bool (l.all mrB)) ∧ w = w' := by
  have Hn := Lib.hid hn; clear hn
  go_enter Try.func44, Try.ntmps44
  go_wp2
  go_loop [7] (fun i => ∃ k : Nat, k ≤ n ∧ i = .int .i64 k ∧ Hid ((l.take k).all mrB = true)) (fun i => n - (intOf i).toNat)
  case atStart => exact ⟨0, Nat.zero_le _, rfl, rfl⟩
  case round =>
    obtain ⟨k, hk, rfl, HA⟩ := hrel
    by_cases hlt : k < n
    · have hcell := hc k hlt
      generalize hx : l.getD k 0 = x at hcell
      have HX := Lib.hid hx; clear hx hc
      by_cases h1 : 100000000000 < x
      · go_wp2
        go_ret
        exact ⟨ret_bool (by rw [all_no mrB l k (by rw [← Hn.out]; exact hlt) 0 (by rw [HX.out]; exact mr_f (by omega))]), rfl⟩
      · by_cases h2 : x < -100000000000
        · go_wp2
          go_ret
          exact ⟨ret_bool (by rw [all_no mrB l k (by rw [← Hn.out]; exact hlt) 0 (by rw [HX.out]; exact mr_f (by omega))]), rfl⟩
        · go_wp2
          go_round
          case rel => exact ⟨k + 1, by omega, by go_num, by unfold Hid; rw [allTake mrB l k (by rw [← Hn.out]; exact hlt) 0, HA.out, HX.out, mr_t (by omega)]; rfl⟩
          case measure => simp [intOf]; omega
    · go_wp2
      go_ret
      have hkn : k = l.length := by rw [← Hn.out]; omega
      refine ⟨ret_bool ?_, rfl⟩
      have := HA.out
      rw [hkn, List.take_length] at this
      rw [this]

theorem right1 (b off c : Nat) (x : Int) (w : World) (h0 : w.cell? ⟨b, off, none⟩ = some (.int .i64 x)) :
    Calls Try.prog 44 #[.slice (some ⟨b, off, none⟩) 1 c] w fun e w' => e = .returned (.bool (mrB x)) ∧ w = w' := by
  refine (right_any b off c 1 [x] w rfl (by decide) (fun k hk => ?_)).mono fun e w' ⟨he, hw⟩ => ⟨he.trans (by simp), hw⟩
  obtain rfl : k = 0 := by omega
  exact h0
theorem right2 (b off c : Nat) (x y : Int) (w : World) (h0 : w.cell? ⟨b, off, none⟩ = some (.int .i64 x)) (h1 : w.cell? ⟨b, off + 1, none⟩ = some (.int .i64 y)) :
    Calls Try.prog 44 #[.slice (some ⟨b, off, none⟩) 2 c] w fun e w' => e = .returned (.bool (mrB x && mrB y)) ∧ w = w' := by
  refine (right_any b off c 2 [x, y] w rfl (by decide) (fun k hk => ?_)).mono fun e w' ⟨he, hw⟩ => ⟨he.trans (by simp), hw⟩
  rcases (by omega : k = 0 ∨ k = 1) with rfl | rfl
  · exact h0
  · exact h1
theorem right3 (b off c : Nat) (x y z : Int) (w : World) (h0 : w.cell? ⟨b, off, none⟩ = some (.int .i64 x)) (h1 : w.cell? ⟨b, off + 1, none⟩ = some (.int .i64 y)) (h2 : w.cell? ⟨b, off + 2, none⟩ = some (.int .i64 z)) :
    Calls Try.prog 44 #[.slice (some ⟨b, off, none⟩) 3 c] w fun e w' => e = .returned (.bool (mrB x && (mrB y && mrB z))) ∧ w = w' := by
  refine (right_any b off c 3 [x, y, z] w rfl (by decide) (fun k hk => ?_)).mono fun e w' ⟨he, hw⟩ => ⟨he.trans (by simp), hw⟩
  rcases (by omega : k = 0 ∨ k = 1 ∨ k = 2) with rfl | rfl | rfl
  · exact h0
  · exact h1
  · exact h2
--%%
theorem check_t (x : Int) (w : World) (h : mrB x = true) :
    Calls Try.prog 45 #[.int .i64 x] w fun e w' => e = .returned (.tuple #[.int .i64 x, .int .i64 0]) ∧ Below w.heap.size w w' := by
  go_enter Try.func45, Try.ntmps45
  go_wp2_with (go_at_call 44; refine (right1 _ _ _ x _ (by simp)).mono ?_; rintro e w' ⟨rfl, rfl⟩)
  go_ret2
  exact ⟨rfl, below1 _ _⟩
theorem check_f (x : Int) (w : World) (h : mrB x = false) :
    Calls Try.prog 45 #[.int .i64 x] w fun e w' => e = .returned (.tuple #[.int .i64 0, .int .i64 10]) ∧ Below w.heap.size w w' := by
  go_enter Try.func45, Try.ntmps45
  go_wp2_with (go_at_call 44; refine (right1 _ _ _ x _ (by simp)).mono ?_; rintro e w' ⟨rfl, rfl⟩)
  go_ret2
  exact ⟨rfl, below1 _ _⟩
--%%
theorem add_t (x y : Int) (w : World) (hx : mrB x = true) (hy : mrB y = true) (hs : mrB (x + y) = true) :
    Calls Try.prog 25 #[.int .i64 x, .int .i64 y] w fun e w' => e = .returned (.tuple #[.int .i64 (x + y), .int .i64 0]) ∧ Below w.heap.size w w' := by
  have hx' := mr_iff.1 hx
  have hy' := mr_iff.1 hy
  go_enter Try.func25, Try.ntmps25
  go_wp2_with (first | (go_at_call 44; refine (right2 _ _ _ x y _ (by simp) (by simp)).mono ?_; rintro e w' ⟨rfl, rfl⟩) | (go_at_call 45; refine (check_t (x + y) _ hs).mono ?_; rintro e w1 ⟨rfl, hb⟩))
  go_ret2
  exact ⟨rfl, (below1 _ _).trans (hb.mono (by simp))⟩
theorem add_f (x y : Int) (w : World) (h : ¬ (mrB x = true ∧ mrB y = true ∧ mrB (x + y) = true)) :
    Calls Try.prog 25 #[.int .i64 x, .int .i64 y] w fun e w' => e = .returned (.tuple #[.int .i64 0, .int .i64 10]) ∧ Below w.heap.size w w' := by
  by_cases hx : (mrB x && mrB y) = true
  · have hx1 : mrB x = true := by simp at hx; exact hx.1
    have hy1 : mrB y = true := by simp at hx; exact hx.2
    have hs : mrB (x + y) = false := by
      cases hh : mrB (x + y) with
      | false => rfl
      | true => exact absurd ⟨hx1, hy1, hh⟩ h
    have hx' := mr_iff.1 hx1
    have hy' := mr_iff.1 hy1
    clear h
    go_enter Try.func25, Try.ntmps25
    go_wp2_with (first | (go_at_call 44; refine (right2 _ _ _ x y _ (by simp) (by simp)).mono ?_; rintro e w' ⟨rfl, rfl⟩) | (go_at_call 45; refine (check_f (x + y) _ hs).mono ?_; rintro e w1 ⟨rfl, hb⟩))
    go_ret2
    exact ⟨rfl, (below1 _ _).trans (hb.mono (by simp))⟩
  · have hx1 : (mrB x && mrB y) = false := by simpa using hx
    clear h hx
    go_enter Try.func25, Try.ntmps25
    go_wp2_with (go_at_call 44; refine (right2 _ _ _ x y _ (by simp) (by simp)).mono ?_; rintro e w' ⟨rfl, rfl⟩)
    go_ret2
    exact ⟨rfl, below1 _ _⟩
--%%
end Go.Proofs.Ytankoappneglcaa
