/-
  Contracts of package word's small functions. Conditions as named.
-/
import Derived.Test.YtankoappneglcaaChecked
import Derived.Test.YtankoappneglcaaVoc2
import Derived.Outline
import Derived.Deep.QuietTactic
import Derived.BigQuiet
import Derived.Lib.SlBytesConst
namespace Go.Proofs.Ytankoappneglcaa
set_option linter.unusedVariables false
open Go.RowKit
/-- may a byte be in a name, at its beginning or behind it? -/
def nameC (first : Bool) (c : Nat) : Bool := decide ((97 ≤ c ∧ c ≤ 122) ∨ (first = false ∧ ((48 ≤ c ∧ c ≤ 57) ∨ c = 45)))
def nameB (s : ByteArray) : Bool := decide (s.size ≠ 0) && decide (s.size ≤ 16) && (List.range s.size).all fun i => nameC (i == 0) (s.data.toList.getD i 0).toNat
theorem byte_at (s : ByteArray) (k : Nat) (hk : k < s.size) : s.data.toList.getD k 0 = s[k] := by
  have : k < s.data.toList.length := by simpa using hk
  simp [List.getD, List.getElem?_eq_getElem this]
  rfl
theorem name_no (s : ByteArray) (k : Nat) (hk : k < s.size) (h : nameC (k == 0) s[k].toNat = false) : nameB s = false := by
  have : ((List.range s.size).all fun i => nameC (i == 0) (s.data.toList.getD i 0).toNat) = false := by
    rw [List.all_eq_false]
    exact ⟨k, List.mem_range.2 hk, by rw [byte_at s k hk, h]; decide⟩
  rw [nameB, this, Bool.and_false]
theorem name_step (s : ByteArray) (k : Nat) (hk : k < s.size) (hA : ((List.range k).all fun i => nameC (i == 0) (s.data.toList.getD i 0).toNat) = true) (h : nameC (k == 0) s[k].toNat = true) :
    ((List.range (k + 1)).all fun i => nameC (i == 0) (s.data.toList.getD i 0).toNat) = true := by
  rw [List.range_succ, List.all_append, hA]
  simp only [List.all_cons, List.all_nil, byte_at s k hk, h, Bool.and_self]
--%%
set_option maxHeartbeats 1600000 in
theorem name_c (s : ByteArray) (w : World) (hs : s.size ≤ 9223372036854775807) : Calls Try.prog 37 #[.string s] w fun e w' => e = .returned (.bool (nameB s)) ∧ w = w' := by
  obtain ⟨r, hr⟩ : ∃ r, r = nameB s := ⟨_, rfl⟩
  rw [← hr]
  have HR := Lib.hid hr
  clear hr
  have hsl : s.toList = s.data.toList := ByteArray.toList_eq s
  have hsz : s.data.toList.length = s.size := by simp
  by_cases h0 : s.size = 0
  · have e : r = false := by rw [HR.out]; simp [nameB, h0]
    subst e
    have e1 : s.toList = [] := by rw [hsl]; exact List.eq_nil_of_length_eq_zero (by omega)
    have e2 : s.toList.isEmpty = true := by rw [e1]; rfl
    clear HR hsl hsz
    go_enter Try.func37, Try.ntmps37
    go_wp2
    go_ret
    exact ⟨rfl, rfl⟩
  have e1 : ¬ s.toList = [] := by rw [hsl]; intro e; rw [e] at hsz; simp at hsz; omega
  have e2 : s.toList.isEmpty = false := by cases hh : s.toList with
    | nil => exact absurd hh e1
    | cons a l => rfl
  clear hsl hsz
  by_cases h16 : 16 < s.size
  · have e : r = false := by rw [HR.out]; simp [nameB, h0]; omega
    subst e
    clear HR
    go_enter Try.func37, Try.ntmps37
    go_wp2
    go_ret
    exact ⟨rfl, rfl⟩
  go_enter Try.func37, Try.ntmps37
  go_wp2
  go_loop [15] (fun i => ∃ k : Nat, k ≤ s.size ∧ i = .int .i64 k ∧ Hid (((List.range k).all fun i => nameC (i == 0) (s.data.toList.getD i 0).toNat) = true)) (fun i => s.size - (intOf i).toNat)
  case atStart => exact ⟨0, Nat.zero_le _, rfl, rfl⟩
  case round =>
    obtain ⟨k, hk', rfl, HA⟩ := hrel
    by_cases hk : k < s.size
    case neg =>
      go_wp2
      go_ret
      refine ⟨ret_bool ?_, rfl⟩
      have hA := HA.out
      rw [show k = s.size by omega] at hA
      rw [HR.out, nameB, hA]
      simp [h0]; omega
    have hb := (s[k].toNat_lt)
    by_cases a1 : 97 ≤ (s[k].toNat : Int)
    · by_cases a2 : (s[k].toNat : Int) ≤ 122
      · skip
        go_wp2
        go_round
        case rel => exact ⟨k + 1, by omega, by go_num, name_step s k hk HA.out (by simp [nameC]; omega)⟩
        case measure => simp [intOf]; omega
      · by_cases k0 : k = 0
        · have kk : ((k : Int) == 0) = true := by simp; omega
          have K0 := Lib.hid k0
          clear k0
          go_wp2
          go_ret
          exact ⟨ret_bool (by rw [HR.out]; exact (name_no s k hk (by have := K0.out; subst this; simp [nameC]; omega)).symm), rfl⟩
        · have kk : ((k : Int) == 0) = false := by simp; omega
          have c1 : ((s[k].toNat : Int) != 45) = true := by simp; omega
          go_wp2
          go_ret
          exact ⟨ret_bool (by rw [HR.out]; exact (name_no s k hk (by simp [nameC]; omega)).symm), rfl⟩
    · by_cases k0 : k = 0
      · have kk : ((k : Int) == 0) = true := by simp; omega
        have K0 := Lib.hid k0
        clear k0
        go_wp2
        go_ret
        exact ⟨ret_bool (by rw [HR.out]; exact (name_no s k hk (by have := K0.out; subst this; simp [nameC]; omega)).symm), rfl⟩
      · have kk : ((k : Int) == 0) = false := by simp; omega
        by_cases a3 : (s[k].toNat : Int) < 48
        · by_cases a4 : (s[k].toNat : Int) = 45
          · have c1 : ((s[k].toNat : Int) != 45) = false := by simp; omega
            have A4 := Lib.hid a4
            clear a4
            go_wp2
            go_round
            case rel => exact ⟨k + 1, by omega, by go_num, name_step s k hk HA.out (by have := A4.out; simp [nameC]; omega)⟩
            case measure => simp [intOf]; omega
          · have c1 : ((s[k].toNat : Int) != 45) = true := by simp; omega
            go_wp2
            go_ret
            exact ⟨ret_bool (by rw [HR.out]; exact (name_no s k hk (by simp [nameC]; omega)).symm), rfl⟩
        · by_cases a5 : 57 < (s[k].toNat : Int)
          · have c1 : ((s[k].toNat : Int) != 45) = true := by simp; omega
            go_wp2
            go_ret
            exact ⟨ret_bool (by rw [HR.out]; exact (name_no s k hk (by simp [nameC]; omega)).symm), rfl⟩
          · skip
            go_wp2
            go_round
            case rel => exact ⟨k + 1, by omega, by go_num, name_step s k hk HA.out (by simp [nameC]; omega)⟩
            case measure => simp [intOf]; omega
--%%
end Go.Proofs.Ytankoappneglcaa
