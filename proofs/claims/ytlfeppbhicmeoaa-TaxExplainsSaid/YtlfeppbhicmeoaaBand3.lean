/-
  Contracts of package band: corners, and the band in which an amount ends. Conditions as named.
-/
import Derived.Test.YtlfeppbhicmeoaaBand
import Derived.Test.YtlfeppbhicmeoaaI64
namespace Go.Proofs.Ytlfeppbhicmeoaa
set_option linter.unusedVariables false
open Go.RowKit
theorem corners_snoc (l : List Bd) (k : Nat) (h0 : 0 < k) (hk : k < l.length) : (((l.drop 1).take (k - 1)).map (·.f)).map (Value.int .i64) ++ [.int .i64 (l.getD k bd0).f] = (((l.drop 1).take k).map (·.f)).map (Value.int .i64) := by
  obtain ⟨j, rfl⟩ : ∃ j, k = j + 1 := ⟨k - 1, by omega⟩
  have h1 := map_take_snoc (fun b : Bd => Value.int .i64 b.f) (l.drop 1) j bd0 (by simp; omega)
  have h2 : (l.drop 1).getD j bd0 = l.getD (j + 1) bd0 := by simp [List.getD]
  rw [h2] at h1
  simpa [List.map_map, Function.comp_def] using h1.symm
--%%
theorem bcorners_c (l : List Bd) (A : Option Addr) (n c : Nat) (w : World) (h : BandSl w A n l) (hn8 : n ≤ 1000) : Calls Try.prog 57 #[.slice A n c] w (GivesI (n - 1) ((l.drop 1).map (·.f)) w) := by
  obtain ⟨hn, hm, hc⟩ := h
  have HC := Lib.hid hc
  have HN := Lib.hid hn
  clear hc hn
  go_enter Try.func57, Try.ntmps57
  go_wp2
  go_loopw [3, 8] (fun v i wr => ∃ k : Nat, k ≤ n ∧ i = .int .i64 k ∧ OwnI wr w.heap.size v (k - 1) (((l.drop 1).take (k - 1)).map (·.f)) ∧ Below w.heap.size w wr) (fun _ i _ => n - (intOf i).toNat)
  case atStart => exact ⟨0, Nat.zero_le _, rfl, ⟨by simp, World.ownsRow_nil _ _ _ _⟩, Below.refl _ _⟩
  case round =>
    obtain ⟨k, hk', rfl, ⟨ho1, ho⟩, hbl⟩ := hrel
    have HO1 := Lib.hid ho1
    clear ho1
    by_cases hk : k < n
    case neg =>
      obtain rfl : k = n := by omega
      go_wp2
      go_ret
      have hl : (l.drop 1).take (k - 1) = l.drop 1 := List.take_of_length_le (by have := HN.out; simp; omega)
      exact ⟨⟨_, rfl, by rw [← hl]; exact ⟨HO1.out, ho⟩⟩, hbl⟩
    obtain ⟨b, off, rfl, hlt, hat⟩ := HC.out (by omega)
    obtain ⟨c0, c1, c2⟩ := hat k (by rw [← HN.out]; exact hk)
    rw [← hbl.cell (p := ⟨b, _, none⟩) hlt] at c0 c1 c2
    have hS := Lib.hid (corners_snoc l k)
    clear hat
    generalize (l.getD k bd0).f = xf at *
    generalize (l.getD k bd0).r = xr at *
    generalize (l.getD k bd0).e = xe at *
    have HO := Lib.hid (ho.alloc (.cells #[.int .i64 xf, .int .i64 xr, .int .i64 xe] 73))
    have hsz := hbl.size
    by_cases k0 : k = 0
    · have kd : decide ((0 : Int) < (k : Int)) = false := by simp; omega
      have kd2 : decide (0 < k) = false := by simp; omega
      have HK0 := Lib.hid k0
      clear k0 ho
      go_wp2
      go_roundw
      case rel => exact ⟨k + 1, by omega, by go_num, by have := HK0.out; subst this; exact ⟨by simp, HO.out⟩, bA hbl _⟩
      case measure => simp [intOf]; omega
    · have kd : (0 : Int) < (k : Int) := by omega
      have kd2 : 0 < k := by omega
      clear ho
      go_wp2_with (at_builtin; refine wpList_app1 _ rfl _ _ 28 rfl 2 _ 1 8 Try.underlying28 info_i64 rfl (by decide) rfl HO.out _ rfl (by simp) rfl (by simp [Value.oneCell']) (by omega) (by omega) (by simp; omega) ?_; intro v' w1 ho' hg)
      go_roundw
      case rel =>
        refine ⟨k + 1, by omega, by go_num, ⟨by have := HO1.out; have := HN.out; simp; omega, ?_⟩, bP (bA hbl _) HO.out hg (Nat.le_refl _)⟩
        rw [show k + 1 - 1 = k from by omega, ← hS.out kd2 (by rw [← HN.out]; exact hk)]
        rw [show k - 1 + 1 = k from by omega] at ho'
        exact ho'
      case measure => simp [intOf]; omega
--%%
end Go.Proofs.Ytlfeppbhicmeoaa
