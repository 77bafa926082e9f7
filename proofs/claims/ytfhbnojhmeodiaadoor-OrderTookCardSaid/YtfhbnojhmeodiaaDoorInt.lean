/-
  Contracts of word.Int and of the document's Int. Conditions as named.
-/
import Derived.Test.YtfhbnojhmeodiaaDoorIntP
import Derived.Test.YtfhbnojhmeodiaaDoorParse
import Derived.Test.YtfhbnojhmeodiaaDoorShelf
import Derived.Lib.AtoiErrMem
namespace Go.Proofs.YtfhbnojhmeodiaaDoor
set_option linter.unusedVariables false
open Go.RowKit
theorem sl_nil2 {s : ByteArray} (h : s.size ≠ 0) : s.data.toList ≠ [] := fun e => h (by
  have : s.data.toList.length = s.size := by simp
  rw [← this, e]; rfl)
theorem str_lit {s : ByteArray} {l : List UInt8} (h : s.data.toList = l) : s = ⟨l.toArray⟩ := by subst h; rfl
set_option maxRecDepth 100000 in
set_option maxHeartbeats 3200000 in
theorem int_c (s : ByteArray) (w : World) (hs : s.size ≤ 1000000) (rv re : Int) (hv : Hid (rv = inV s.data.toList)) (he : Hid (re = inE s.data.toList)) :
    Calls Tryd.prog 48 #[.string s] w fun e w' => e = .returned (.tuple #[.int .i64 rv, .int .i64 re]) ∧ Below w.heap.size w w' := by
  obtain ⟨m, hm⟩ : ∃ m : ByteArray, m = ⟨(Lib.trimPrefix s.data.toList [45]).toArray⟩ := ⟨_, rfl⟩
  have KT : Hid (∀ W, Calls Tryd.prog 63 #[.string s, .string ⟨#[45]⟩] W fun e w' => e = .returned (.string m) ∧ W = w') := fun W => by
    rw [hm]
    exact (Tryd.strings_TrimPrefix s ⟨#[45]⟩ W).mono fun e w' ⟨h1, h2⟩ => ⟨h1, h2.symm⟩
  have hml : m.data.toList = inN s.data.toList := by rw [hm, ← inN_trim]
  have hms : m.data.toList.length = m.size := by simp
  have hsl : s.data.toList.length = s.size := by simp
  have HE : Hid (re = if inN s.data.toList = [] then 5 else if (1 < (inN s.data.toList).length ∨ inM s.data.toList = true) ∧ gB (inN s.data.toList) 0 = 48 then 5 else if dTo (inN s.data.toList) (inN s.data.toList).length = false then 5 else if 9 < (inN s.data.toList).length then 1 else 0) := he
  rw [← hml, hms] at HE
  have HV0 : Hid (re ≠ 0 → rv = 0) := fun h => by rw [hv.out]; unfold inV; rw [if_neg (by rw [← he.out]; exact h)]
  have HMS : Hid (m.size ≤ s.size) := by
    unfold Hid
    rw [← hms, hml, ← hsl]
    unfold inN
    split
    · simp
    · exact Nat.le_refl _
  have HSM : Hid (m.size = s.size ∨ (m.size + 1 = s.size ∧ inM s.data.toList = true)) := by
    unfold Hid
    rw [← hms, hml, ← hsl]
    unfold inN
    split
    · rename_i h
      right
      have : s.data.toList ≠ [] := by
        unfold inM at h; simp at h; exact fun e => h.1 (by simpa using e)
      have := List.length_pos_iff.2 this
      simp [h]; omega
    · left; rfl
  have KA : Hid (re = 0 → ∀ W, s.size ≤ 18 → Calls Tryd.prog 64 #[.string s] W fun e w' => e = .returned (.tuple #[.int .i64 rv, .nilIface]) ∧ Below W.heap.size W w') := fun h W h18 => by
    refine (Tryd.strconv_Atoi s rv h18 (by rw [hv.out]; exact atoi_in (by rw [← he.out]; exact h)) W).mono ?_
    rintro e w' ⟨h1, t, rfl⟩
    exact ⟨h1, Lib.bytesWorld_below W _ t⟩
  have hms1 := HMS.out
  have HMN : Hid ((inN s.data.toList).length = m.size ∧ gB (inN s.data.toList) 0 = gB m.data.toList 0) := ⟨by rw [← hml, hms], by rw [← hml]⟩
  clear hv he hm hml hms
  by_cases h0 : m.size = 0
  · obtain ⟨f1, f2⟩ := str_none m h0
    have e1 : re = 5 := by
      rw [HE.out, if_pos]
      have : m.data.toList.length = m.size := by simp
      exact List.length_eq_zero_iff.1 (by omega)
    obtain rfl : rv = 0 := HV0.out (by rw [e1]; decide)
    subst e1
    clear HE HV0 KA HMS HSM
    go_enter Tryd.func48, Tryd.ntmps48
    go_wp2_with fail
    refine (KT.out _).mono ?_
    rintro e w1 ⟨rfl, rfl⟩
    go_wp2_with fail
    go_ret2
    exact ⟨rfl, b0 _⟩
  obtain ⟨f1, f2⟩ := str_facts m h0
  have hne : m.data.toList ≠ [] := by
    intro e
    have : m.data.toList.length = m.size := by simp
    rw [e] at this; simp at this; omega
  have HE1 : Hid (re = if (1 < m.size ∨ inM s.data.toList = true) ∧ gB m.data.toList 0 = 48 then 5 else if dTo m.data.toList m.size = false then 5 else if 9 < m.size then 1 else 0) := HE.out.trans (if_neg hne)
  have hbg := byte_gB m 0 (by omega)
  have h0i : 0 < m.size := by omega
  clear HE hne
  generalize hg0 : gB m.data.toList 0 = g0 at *
  have HG0 := Lib.hid hg0
  clear hg0
  obtain ⟨bz, hbz⟩ : ∃ b : Bool, decide (1 < m.size) = b := ⟨_, rfl⟩
  by_cases hA : 1 < m.size ∧ g0 = 48
  · obtain ⟨hA1, hA2⟩ := hA
    have v1 : decide ((1 : Int) < (m.size : Int)) = true := by simp; omega
    have e1 : re = 5 := HE1.out.trans (if_pos ⟨Or.inl hA1, hA2⟩)
    obtain rfl : rv = 0 := HV0.out (by rw [e1]; decide)
    subst hA2
    subst e1
    clear HE1 HV0 KA HMS HSM hbz HG0
    go_enter Tryd.func48, Tryd.ntmps48
    go_wp2_with fail
    refine (KT.out _).mono ?_
    rintro e w1 ⟨rfl, rfl⟩
    go_wp2_with fail
    go_ret2
    exact ⟨rfl, b0 _⟩
  obtain ⟨bm, hbm⟩ : ∃ b, b = inM s.data.toList := ⟨_, rfl⟩
  have HBD : Hid ((s.toList == [45, 48]) = (bm && (decide (m.size = 1) && decide (g0 = 48)))) := by
    unfold Hid
    rw [ByteArray.toList_eq, minus0, hbm, HMN.out.1, HMN.out.2]
  rw [← hbm] at HE1
  clear hbm HMN
  by_cases hB : 1 < m.size
  · have v1 : decide ((1 : Int) < (m.size : Int)) = true := by simp; omega
    have v2 : (g0 == 48) = false := by simpa using (fun h => hA ⟨hB, h⟩)
    have v3 : (s.toList == [45, 48]) = false := by rw [HBD.out]; simp; omega
    have HE2 : Hid (re = if dTo m.data.toList m.size = false then 5 else if 9 < m.size then 1 else 0) := HE1.out.trans (if_neg (fun h => hA ⟨hB, h.2⟩))
    clear HE1 hA hB HBD hbz
    go_enter Tryd.func48, Tryd.ntmps48
    go_wp2_with fail
    refine (KT.out _).mono ?_
    rintro e w1 ⟨rfl, rfl⟩
    go_wp2_with fail
    clear hbg
    go_loop [28] (fun i => ∃ k : Nat, k ≤ m.size ∧ i = .int .i64 k ∧ Hid (dTo m.data.toList k = true)) (fun i => m.size - (intOf i).toNat)
    case atStart => exact ⟨0, Nat.zero_le _, rfl, rfl⟩
    case round =>
      obtain ⟨k, hk', rfl, HA⟩ := hrel
      by_cases hk : k < m.size
      · have hbk := byte_gB m k hk
        have HN : Hid (dI (gB m.data.toList k) = false → re = 5 ∧ rv = 0) := fun h => by
          have e : re = 5 := HE2.out.trans (if_pos (dTo_no hk h))
          exact ⟨e, HV0.out (by rw [e]; decide)⟩
        have HY : Hid (dI (gB m.data.toList k) = true → dTo m.data.toList (k + 1) = true) := fun h => dTo_step HA.out h
        generalize gB m.data.toList k = c at *
        clear HA HE2
        by_cases c1 : c < 48
        · obtain ⟨rfl, rfl⟩ := HN.out (by unfold dI; simp; omega)
          have v5 : decide (c < 48) = true := by simpa using c1
          clear HN HY c1
          go_wp2_with fail
          go_ret2
          exact ⟨rfl, b0 _⟩
        have v5 : decide (c < 48) = false := by simpa using c1
        by_cases c2 : 57 < c
        · obtain ⟨rfl, rfl⟩ := HN.out (by unfold dI; simp; omega)
          have v6 : decide (57 < c) = true := by simpa using c2
          clear HN HY c1 c2
          go_wp2_with fail
          go_ret2
          exact ⟨rfl, b0 _⟩
        have v6 : decide (57 < c) = false := by simpa using c2
        have HY2 := Lib.hid (HY.out (by unfold dI; simp; omega))
        clear HN HY c1 c2
        go_wp2_with fail
        go_round
        case rel => exact ⟨k + 1, by omega, by go_num, HY2.out⟩
        case measure => simp [intOf]; omega
      obtain rfl : k = m.size := by omega
      have HE3 : Hid (re = if 9 < m.size then 1 else 0) := HE2.out.trans (if_neg (by simp [HA.out]))
      clear HE2
      by_cases h9 : 9 < m.size
      · have v5 : decide ((9 : Int) < (m.size : Int)) = true := by simp; omega
        have e : re = 1 := HE3.out.trans (if_pos h9)
        obtain rfl : rv = 0 := HV0.out (by rw [e]; decide)
        subst e
        clear HE3 HV0 KA h9
        go_wp2_with fail
        go_ret2
        exact ⟨rfl, b0 _⟩
      have v5 : decide ((9 : Int) < (m.size : Int)) = false := by simp; omega
      have e : re = 0 := HE3.out.trans (if_neg h9)
      subst e
      have KAA := Lib.hid (KA.out rfl)
      have hs18 : s.size ≤ 18 := by have := HSM.out; omega
      clear HE3 HV0 KA h9
      go_wp2_with fail
      refine (KAA.out _ hs18).mono ?_
      rintro e w2 ⟨rfl, hb2⟩
      go_wp2_with fail
      go_ret2
      exact ⟨rfl, hb2⟩
  have hm1 : m.size = 1 := by omega
  have v1 : decide ((1 : Int) < (m.size : Int)) = false := by simp; omega
  by_cases hC : bm = true ∧ g0 = 48
  · have v3 : (s.toList == [45, 48]) = true := by rw [HBD.out]; simp [hC.1, hC.2, hm1]
    have e1 : re = 5 := HE1.out.trans (if_pos ⟨Or.inr hC.1, hC.2⟩)
    obtain rfl : rv = 0 := HV0.out (by rw [e1]; decide)
    subst e1
    clear HE1 HV0 KA HMS HSM hbz hC hA HBD
    go_enter Tryd.func48, Tryd.ntmps48
    go_wp2_with fail
    refine (KT.out _).mono ?_
    rintro e w1 ⟨rfl, rfl⟩
    go_wp2_with fail
    go_ret2
    exact ⟨rfl, b0 _⟩
  · have v3 : (s.toList == [45, 48]) = false := by
      rw [HBD.out]; simp; intro h1 _ h2; exact hC ⟨h1, h2⟩
    have HE2 : Hid (re = if dTo m.data.toList m.size = false then 5 else if 9 < m.size then 1 else 0) := HE1.out.trans (if_neg (fun h => by rcases h.1 with h1 | h1; exact hB h1; exact hC ⟨h1, h.2⟩))
    clear HE1 hA hB hC HBD hbz hm1
    go_enter Tryd.func48, Tryd.ntmps48
    go_wp2_with fail
    refine (KT.out _).mono ?_
    rintro e w1 ⟨rfl, rfl⟩
    go_wp2_with fail
    clear hbg
    go_loop [28] (fun i => ∃ k : Nat, k ≤ m.size ∧ i = .int .i64 k ∧ Hid (dTo m.data.toList k = true)) (fun i => m.size - (intOf i).toNat)
    case atStart => exact ⟨0, Nat.zero_le _, rfl, rfl⟩
    case round =>
      obtain ⟨k, hk', rfl, HA⟩ := hrel
      by_cases hk : k < m.size
      · have hbk := byte_gB m k hk
        have HN : Hid (dI (gB m.data.toList k) = false → re = 5 ∧ rv = 0) := fun h => by
          have e : re = 5 := HE2.out.trans (if_pos (dTo_no hk h))
          exact ⟨e, HV0.out (by rw [e]; decide)⟩
        have HY : Hid (dI (gB m.data.toList k) = true → dTo m.data.toList (k + 1) = true) := fun h => dTo_step HA.out h
        generalize gB m.data.toList k = c at *
        clear HA HE2
        by_cases c1 : c < 48
        · obtain ⟨rfl, rfl⟩ := HN.out (by unfold dI; simp; omega)
          have v5 : decide (c < 48) = true := by simpa using c1
          clear HN HY c1
          go_wp2_with fail
          go_ret2
          exact ⟨rfl, b0 _⟩
        have v5 : decide (c < 48) = false := by simpa using c1
        by_cases c2 : 57 < c
        · obtain ⟨rfl, rfl⟩ := HN.out (by unfold dI; simp; omega)
          have v6 : decide (57 < c) = true := by simpa using c2
          clear HN HY c1 c2
          go_wp2_with fail
          go_ret2
          exact ⟨rfl, b0 _⟩
        have v6 : decide (57 < c) = false := by simpa using c2
        have HY2 := Lib.hid (HY.out (by unfold dI; simp; omega))
        clear HN HY c1 c2
        go_wp2_with fail
        go_round
        case rel => exact ⟨k + 1, by omega, by go_num, HY2.out⟩
        case measure => simp [intOf]; omega
      obtain rfl : k = m.size := by omega
      have HE3 : Hid (re = if 9 < m.size then 1 else 0) := HE2.out.trans (if_neg (by simp [HA.out]))
      clear HE2
      by_cases h9 : 9 < m.size
      · have v5 : decide ((9 : Int) < (m.size : Int)) = true := by simp; omega
        have e : re = 1 := HE3.out.trans (if_pos h9)
        obtain rfl : rv = 0 := HV0.out (by rw [e]; decide)
        subst e
        clear HE3 HV0 KA h9
        go_wp2_with fail
        go_ret2
        exact ⟨rfl, b0 _⟩
      have v5 : decide ((9 : Int) < (m.size : Int)) = false := by simp; omega
      have e : re = 0 := HE3.out.trans (if_neg h9)
      subst e
      have KAA := Lib.hid (KA.out rfl)
      have hs18 : s.size ≤ 18 := by have := HSM.out; omega
      clear HE3 HV0 KA h9
      go_wp2_with fail
      refine (KAA.out _ hs18).mono ?_
      rintro e w2 ⟨rfl, hb2⟩
      go_wp2_with fail
      go_ret2
      exact ⟨rfl, hb2⟩
--%%
end Go.Proofs.YtfhbnojhmeodiaaDoor
