/-
  Contract of word.Name. Conditions as named.
-/
import Derived.Test.YtohdmfedappenaaDoorParse
namespace Go.Proofs.YtohdmfedappenaaDoor
set_option linter.unusedVariables false
open Go.RowKit
def nmI (c : Int) (k : Nat) : Bool := decide (97 ≤ c ∧ c ≤ 122) || (decide (k ≠ 0) && (decide (48 ≤ c ∧ c ≤ 57) || decide (c = 45)))
def nmTo (l : List UInt8) (n : Nat) : Bool := (List.range n).all fun i => nmI (gB l i) i
theorem nmTo_iff {l : List UInt8} {n : Nat} : nmTo l n = true ↔ ∀ i, i < n → nmI (gB l i) i = true := by
  unfold nmTo
  rw [List.all_eq_true]
  exact ⟨fun h i hi => h i (List.mem_range.2 hi), fun h i hi => h i (List.mem_range.1 hi)⟩
theorem nmTo_no {l : List UInt8} {n k : Nat} (hk : k < n) (h : nmI (gB l k) k = false) : nmTo l n = false := by
  cases hh : nmTo l n with
  | false => rfl
  | true => rw [nmTo_iff.1 hh k hk] at h; cases h
theorem nmTo_step {l : List UInt8} {k : Nat} (h : nmTo l k = true) (h2 : nmI (gB l k) k = true) : nmTo l (k + 1) = true := by
  rw [nmTo_iff] at *
  intro i hi
  rcases (by omega : i = k ∨ i < k) with rfl | hi
  · exact h2
  · exact h i hi
/-- a name -/
def nameB (l : List UInt8) : Bool := decide (1 ≤ l.length ∧ l.length ≤ 16) && nmTo l l.length
--%%
set_option maxHeartbeats 1600000 in
theorem name_c (s : ByteArray) (w : World) (hs : s.size ≤ 9223372036854775807) (r : Bool) (hr : Hid (r = nameB s.data.toList)) : Calls Tryd.prog 17 #[.string s] w fun e w' => e = .returned (.bool r) ∧ w = w' := by
  have hlen : s.data.toList.length = s.size := by simp
  have HR : Hid (r = (decide (1 ≤ s.size ∧ s.size ≤ 16) && nmTo s.data.toList s.size)) := by
    have := hr.out; unfold nameB at this; rw [hlen] at this; exact this
  clear hr hlen
  by_cases h0 : s.size = 0
  · have e : r = false := by rw [HR.out]; simp [h0]
    subst e
    obtain ⟨f1, f2⟩ := str_none s h0
    clear HR
    go_enter Tryd.func17, Tryd.ntmps17
    go_wp2_with fail
    go_ret
    exact ⟨rfl, rfl⟩
  obtain ⟨f1, f2⟩ := str_facts s h0
  by_cases h1 : 16 < s.size
  · have e : r = false := by rw [HR.out]; simp; omega
    have v : decide ((16 : Int) < (s.size : Int)) = true := by simp; omega
    subst e
    clear HR
    go_enter Tryd.func17, Tryd.ntmps17
    go_wp2_with fail
    go_ret
    exact ⟨rfl, rfl⟩
  have v : decide ((16 : Int) < (s.size : Int)) = false := by simp; omega
  have HR2 : Hid (r = nmTo s.data.toList s.size) := by unfold Hid; rw [HR.out]; simp; omega
  clear HR
  go_enter Tryd.func17, Tryd.ntmps17
  go_wp2_with fail
  go_loop [3, 4, 5, 15] (fun _ _ _ i => ∃ k : Nat, k ≤ s.size ∧ i = .int .i64 k ∧ Hid (nmTo s.data.toList k = true)) (fun _ _ _ i => s.size - (intOf i).toNat)
  case atStart => exact ⟨0, Nat.zero_le _, rfl, rfl⟩
  case round =>
    obtain ⟨k, hk', rfl, HA⟩ := hrel
    by_cases hk : k < s.size
    case neg =>
      obtain rfl : k = s.size := by omega
      have e : r = true := HR2.out.trans HA.out
      subst e
      clear HR2
      go_wp2_with fail
      go_ret
      exact ⟨rfl, rfl⟩
    have hbg := byte_gB s k hk
    have hbd := gB_bd s.data.toList k
    have HN : Hid (nmI (gB s.data.toList k) k = false → r = false) := fun h => HR2.out.trans (nmTo_no hk h)
    have HY : Hid (nmI (gB s.data.toList k) k = true → nmTo s.data.toList (k + 1) = true) := fun h => nmTo_step HA.out h
    generalize gB s.data.toList k = c at *
    clear HA HR2
    by_cases a1 : 97 ≤ c
    · by_cases a2 : c ≤ 122
      · (have HY2 := Lib.hid (HY.out (by unfold nmI; simp; omega)); clear HN HY; go_wp2_with fail; go_round; (case rel => exact ⟨k + 1, by omega, by go_num, HY2.out⟩); (case measure => simp [intOf]; omega))
      · by_cases a3 : k = 0
        · have vk : ((k : Int) == 0) = true := by simp [a3]
          (have e : r = false := HN.out (by unfold nmI; simp; omega); subst e; clear HN HY a3; go_wp2_with fail; go_ret; exact ⟨rfl, rfl⟩)
        · have vk : ((k : Int) == 0) = false := by simp [a3]
          have v5 : decide (57 < c) = true := by simp; omega
          have v9 : (c != 45) = true := by simp; omega
          (have e : r = false := HN.out (by unfold nmI; simp; omega); subst e; clear HN HY a3; go_wp2_with fail; go_ret; exact ⟨rfl, rfl⟩)
    · by_cases a3 : k = 0
      · have vk : ((k : Int) == 0) = true := by simp [a3]
        (have e : r = false := HN.out (by unfold nmI; simp; omega); subst e; clear HN HY a3; go_wp2_with fail; go_ret; exact ⟨rfl, rfl⟩)
      · have vk : ((k : Int) == 0) = false := by simp [a3]
        by_cases a4 : c < 48
        · by_cases a6 : c = 45
          · have v9 : (c != 45) = false := by simp [a6]
            (have HY2 := Lib.hid (HY.out (by unfold nmI; simp; omega)); clear HN HY; go_wp2_with fail; go_round; (case rel => exact ⟨k + 1, by omega, by go_num, HY2.out⟩); (case measure => simp [intOf]; omega))
          · have v9 : (c != 45) = true := by simpa using a6
            (have e : r = false := HN.out (by unfold nmI; simp; omega); subst e; clear HN HY a3; go_wp2_with fail; go_ret; exact ⟨rfl, rfl⟩)
        · by_cases a5 : 57 < c
          · have v9 : (c != 45) = true := by simp; omega
            (have e : r = false := HN.out (by unfold nmI; simp; omega); subst e; clear HN HY a3; go_wp2_with fail; go_ret; exact ⟨rfl, rfl⟩)
          · (have HY2 := Lib.hid (HY.out (by unfold nmI; simp; omega)); clear HN HY; go_wp2_with fail; go_round; (case rel => exact ⟨k + 1, by omega, by go_num, HY2.out⟩); (case measure => simp [intOf]; omega))
--%%
end Go.Proofs.YtohdmfedappenaaDoor
