/-
  Contracts of money.digit, whole and digits. Conditions as named.
-/
import Derived.Test.YtfhbnojhmeodiaaDoorParseP
import Derived.Deep.QuietTactic
import Derived.BigQuiet
namespace Go.Proofs.YtfhbnojhmeodiaaDoor
set_option linter.unusedVariables false
open Go.RowKit
theorem byte_gB (s : ByteArray) (k : Nat) (hk : k < s.size) : ((s[k]).toNat : Int) = gB s.data.toList k := by
  unfold gB
  have : k < s.data.toList.length := by simpa using hk
  simp [List.getD, List.getElem?_eq_getElem this]
  rfl
theorem str_facts (s : ByteArray) (h : s.size ≠ 0) : ¬ s.toList = [] ∧ s.toList.isEmpty = false := by
  have hsl : s.toList = s.data.toList := ByteArray.toList_eq s
  have hsz : s.data.toList.length = s.size := by simp
  have e1 : ¬ s.toList = [] := by rw [hsl]; intro e; rw [e] at hsz; simp at hsz; omega
  refine ⟨e1, ?_⟩
  cases hh : s.toList with
  | nil => exact absurd hh e1
  | cons a l => rfl
theorem str_none (s : ByteArray) (h : s.size = 0) : s.toList = [] ∧ s.toList.isEmpty = true := by
  have hsl : s.toList = s.data.toList := ByteArray.toList_eq s
  have hsz : s.data.toList.length = s.size := by simp
  have e1 : s.toList = [] := by rw [hsl]; exact List.eq_nil_of_length_eq_zero (by omega)
  exact ⟨e1, by rw [e1]; rfl⟩
--%%
theorem digit_c (c : Int) (w : World) : Calls Tryd.prog 65 #[.int .u8 c] w fun e w' => e = .returned (.bool (dI c)) ∧ w = w' := by
  by_cases h1 : 48 ≤ c
  · by_cases h2 : c ≤ 57
    · go_enter Tryd.func65, Tryd.ntmps65
      go_wp2
      go_ret
      exact ⟨ret_bool (by simp [dI]; omega), rfl⟩
    · go_enter Tryd.func65, Tryd.ntmps65
      go_wp2
      go_ret
      exact ⟨ret_bool (by simp [dI]; omega), rfl⟩
  · go_enter Tryd.func65, Tryd.ntmps65
    go_wp2
    go_ret
    exact ⟨ret_bool (by simp [dI]; omega), rfl⟩
--%%
theorem digits_c (s : ByteArray) (w : World) (hs : s.size ≤ 9223372036854775807) : Calls Tryd.prog 67 #[.string s] w fun e w' => e = .returned (.bool (dTo s.data.toList s.size)) ∧ w = w' := by
  obtain ⟨r, hr⟩ : ∃ r, r = dTo s.data.toList s.size := ⟨_, rfl⟩
  rw [← hr]
  have HR := Lib.hid hr
  clear hr
  go_enter Tryd.func67, Tryd.ntmps67
  go_wp2_with fail
  go_loop [6] (fun i => ∃ k : Nat, k ≤ s.size ∧ i = .int .i64 k ∧ Hid (dTo s.data.toList k = true)) (fun i => s.size - (intOf i).toNat)
  case atStart => exact ⟨0, Nat.zero_le _, rfl, rfl⟩
  case round =>
    obtain ⟨k, hk', rfl, HA⟩ := hrel
    by_cases hk : k < s.size
    case neg =>
      obtain rfl : k = s.size := by omega
      have e : r = true := HR.out.trans HA.out
      subst e
      go_wp2_with fail
      go_ret
      exact ⟨rfl, rfl⟩
    have hbg := byte_gB s k hk
    have HN : Hid (dI (gB s.data.toList k) = false → r = false) := fun h => HR.out.trans (dTo_no hk h)
    have HY : Hid (dI (gB s.data.toList k) = true → dTo s.data.toList (k + 1) = true) := fun h => dTo_step HA.out h
    generalize gB s.data.toList k = c at *
    have KD := Lib.hid (digit_c c)
    cases hd : dI c
    · have e : r = false := HN.out hd
      subst e
      rw [hd] at KD
      clear hd
      go_wp2_with fail
      refine (KD.out _).mono ?_
      rintro e w1 ⟨rfl, rfl⟩
      go_wp2_with fail
      go_ret
      exact ⟨rfl, rfl⟩
    · have HY2 := Lib.hid (HY.out hd)
      rw [hd] at KD
      clear hd
      go_wp2_with fail
      refine (KD.out _).mono ?_
      rintro e w1 ⟨rfl, rfl⟩
      go_wp2_with fail
      go_round
      case rel => exact ⟨k + 1, by omega, by go_num, HY2.out⟩
      case measure => simp [intOf]; omega
--%%
set_option maxRecDepth 100000 in
set_option maxHeartbeats 3200000 in
theorem whole_c (s : ByteArray) (w : World) (hs : s.size ≤ 18) (ov : Int) (ob : Bool) (h1 : Hid (ov = whV s.data.toList)) (h2 : Hid (ob = whO s.data.toList)) : Calls Tryd.prog 66 #[.string s] w fun e w' => e = .returned (.tuple #[.int .i64 ov, .bool ob]) ∧ Below w.heap.size w w' := by
  have hlen : s.data.toList.length = s.size := by simp
  have H1 : Hid (ov = if dTo s.data.toList s.size = true then wV s.data.toList s.size else 0) := by
    have := h1.out; unfold whV at this; rw [hlen] at this; exact this
  have H2 : Hid (ob = (dTo s.data.toList s.size && decide (s.size ≠ 0) && (decide (s.size = 1) || decide (gB s.data.toList 0 ≠ 48)))) := by
    have := h2.out; unfold whO at this; rw [hlen] at this; exact this
  have HW0 : Hid (wV s.data.toList 0 = 0) := rfl
  clear h1 h2 hlen
  go_enter Tryd.func66, Tryd.ntmps66
  go_wp2_with fail
  go_loop [4, 8] (fun nv i => ∃ k : Nat, k ≤ s.size ∧ i = .int .i64 k ∧ nv = .int .i64 (wV s.data.toList k) ∧ Hid (dTo s.data.toList k = true)) (fun _ i => s.size - (intOf i).toNat)
  case atStart => exact ⟨0, Nat.zero_le _, rfl, by rw [HW0.out], rfl⟩
  case round =>
    obtain ⟨k, hk', rfl, rfl, HA⟩ := hrel
    by_cases hk : k < s.size
    case neg =>
      obtain rfl : k = s.size := by omega
      have e1 : ov = wV s.data.toList s.size := H1.out.trans (if_pos HA.out)
      have e2 : ob = (decide (s.size ≠ 0) && (decide (s.size = 1) || decide (gB s.data.toList 0 ≠ 48))) := by rw [H2.out, HA.out]; simp
      rw [← e1]
      have E2 := Lib.hid e2
      clear e1 e2 H1 H2
      by_cases h0 : s.size = 0
      · have e : ob = false := by rw [E2.out]; simp [h0]
        subst e
        obtain ⟨f1, f2⟩ := str_none s h0
        clear E2 HA
        go_wp2_with fail
        go_quiet (fail)
        go_wp2_with fail
        go_ret2
        exact ⟨rfl, bD (b0 _) _⟩
      obtain ⟨f1, f2⟩ := str_facts s h0
      by_cases h1 : s.size = 1
      · have e : ob = true := by rw [E2.out]; simp [h1]
        subst e
        have v1 : ((s.size : Int) == 1) = true := by simp; omega
        clear E2 HA h0 h1
        go_wp2_with fail
        go_quiet (fail)
        go_wp2_with fail
        go_ret2
        exact ⟨rfl, bD (b0 _) _⟩
      have v1 : ((s.size : Int) == 1) = false := by simp; omega
      have hpos : 0 < s.size := by omega
      have hbg := byte_gB s 0 hpos
      have e : ob = (decide (gB s.data.toList 0 ≠ 48)) := by rw [E2.out]; simp [h0, h1]
      generalize gB s.data.toList 0 = c at *
      by_cases hc : c = 48
      · have e' : ob = false := by rw [e]; simp [hc]
        have v2 : (c != 48) = false := by simpa using hc
        subst e'
        clear E2 HA h0 h1 e hc
        go_wp2_with fail
        go_quiet (fail)
        go_wp2_with fail
        go_ret2
        exact ⟨rfl, bD (b0 _) _⟩
      · have e' : ob = true := by rw [e]; simp [hc]
        have v2 : (c != 48) = true := by simpa using hc
        subst e'
        clear E2 HA h0 h1 e hc
        go_wp2_with fail
        go_quiet (fail)
        go_wp2_with fail
        go_ret2
        exact ⟨rfl, bD (b0 _) _⟩
    have hbg := byte_gB s k hk
    have hgb := gB_bd s.data.toList k
    have hwv := wV_bd s.data.toList k HA.out
    have hp := pow_le18 k (by omega)
    have HWS : Hid (wV s.data.toList (k + 1) = 10 * wV s.data.toList k + (gB s.data.toList k - 48)) := rfl
    have HN : Hid (dI (gB s.data.toList k) = false → dTo s.data.toList s.size = false) := fun h => dTo_no hk h
    have HY : Hid (dI (gB s.data.toList k) = true → dTo s.data.toList (k + 1) = true) := fun h => dTo_step HA.out h
    have HWN : Hid (dI (gB s.data.toList k) = true → wV s.data.toList (k + 1) ≤ 1000000000000000000) := fun h => by
      have h1 := (wV_bd s.data.toList (k + 1) (HY.out h)).2
      have h2 := pow_le18 (k + 1) (by omega)
      omega
    rw [HWS.out] at HWN
    generalize wV s.data.toList k = wk at *
    generalize gB s.data.toList k = c at *
    obtain ⟨w0', w1'⟩ := hwv
    obtain ⟨c0, c1⟩ := hgb
    have KD := Lib.hid (digit_c c)
    cases hd : dI c
    · have e1 : ov = 0 := H1.out.trans (if_neg (by rw [HN.out hd]; decide))
      have e2 : ob = false := by rw [H2.out, HN.out hd]; simp
      subst e1
      subst e2
      rw [hd] at KD
      clear hd w1' hp
      go_wp2_with fail
      refine (KD.out _).mono ?_
      rintro e w1 ⟨rfl, rfl⟩
      go_wp2_with fail
      go_ret2
      exact ⟨rfl, b0 _⟩
    · have HY2 := Lib.hid (HY.out hd)
      have hw2 := HWN.out hd
      have hdd : 48 ≤ c ∧ c ≤ 57 := by unfold dI at hd; simpa using hd
      obtain ⟨d0, d1⟩ := hdd
      have wk1 : wk ≤ 100000000000000000 := by omega
      rw [hd] at KD
      clear hd w1' hp hw2
      go_wp2_with fail
      refine (KD.out _).mono ?_
      rintro e w1 ⟨rfl, rfl⟩
      go_wp2_with fail
      go_round
      case rel => exact ⟨k + 1, by omega, by go_num, by rw [HWS.out], HY2.out⟩
      case measure => simp [intOf]; omega
--%%
end Go.Proofs.YtfhbnojhmeodiaaDoor
