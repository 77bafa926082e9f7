/-
  Contracts of word.Int and of the document's Int. Conditions as named.
-/
import Derived.Test.YtohdmfedappenaaDoorIntP
import Derived.Test.YtohdmfedappenaaDoorParse
import Derived.Test.YtohdmfedappenaaDoorShelf
import Derived.Lib.AtoiErrMem
namespace Go.Proofs.YtohdmfedappenaaDoor
set_option linter.unusedVariables false
open Go.RowKit
theorem sl_nil2 {s : ByteArray} (h : s.size ≠ 0) : s.data.toList ≠ [] := fun e => h (by
  have : s.data.toList.length = s.size := by simp
  rw [← this, e]; rfl)
theorem str_lit {s : ByteArray} {l : List UInt8} (h : s.data.toList = l) : s = ⟨l.toArray⟩ := by subst h; rfl
set_option maxRecDepth 100000 in
set_option maxHeartbeats 3200000 in
theorem int_c (s : ByteArray) (w : World) (hs : s.size ≤ 1000000) (rv re : Int) (hv : Hid (rv = inV s.data.toList)) (he : Hid (re = inE s.data.toList)) :
    Calls Tryd.prog 14 #[.string s] w fun e w' => e = .returned (.tuple #[.int .i64 rv, .int .i64 re]) ∧ Below w.heap.size w w' := by
  obtain ⟨m, hm⟩ : ∃ m : ByteArray, m = ⟨(Lib.trimPrefix s.data.toList [45]).toArray⟩ := ⟨_, rfl⟩
  have KT : Hid (∀ W, Calls Tryd.prog 25 #[.string s, .string ⟨#[45]⟩] W fun e w' => e = .returned (.string m) ∧ W = w') := fun W => by
    rw [hm]
    exact (Tryd.strings_TrimPrefix s ⟨#[45]⟩ W).mono fun e w' ⟨h1, h2⟩ => ⟨h1, h2.symm⟩
  have hml : m.data.toList = inN s.data.toList := by rw [hm, ← inN_trim]
  have hms : m.data.toList.length = m.size := by simp
  have hsl : s.data.toList.length = s.size := by simp
  have HE : Hid (re = if inN s.data.toList = [] then 5 else if (1 < (inN s.data.toList).length ∨ inM s.data.toList = true) ∧ gB (inN s.data.toList) 0 = 48 then 5 else if dTo (inN s.data.toList) (inN s.data.toList).length = false then 5 else if 9 < (inN s.data.toList).length then 1 else 0) := he
  rw [← hml, hms] at HE
  have HV0 : Hid (re ≠ 0 → rv = 0) := fun h => by rw [hv.out]; unfold inV; rw [if_neg (by rw [← he.out]; exact h)]
  have HMS : Hid (m.size ≤ s.size) := by
    unfold Hid
    rw [← hms, hml, ← hsl]
    unfold inN
    split
    · simp
    · exact Nat.le_refl _
  have HSM : Hid (m.size = s.size ∨ (m.size + 1 = s.size ∧ inM s.data.toList = true)) := by
    unfold Hid
    rw [← hms, hml, ← hsl]
    unfold inN
    split
    · rename_i h
      right
      have : s.data.toList ≠ [] := by
        unfold inM at h; simp at h; exact fun e => h.1 (by simpa using e)
      have := List.length_pos_iff.2 this
      simp [h]; omega
    · left; rfl
  have KA : Hid (re = 0 → ∀ W, s.size ≤ 18 → Calls Tryd.prog 26 #[.string s] W fun e w' => e = .returned (.tuple #[.int .i64 rv, .nilIface]) ∧ Below W.heap.size W w') := fun h W h18 => by
    refine (Tryd.strconv_Atoi s rv h18 (by rw [hv.out]; exact atoi_in (by rw [← he.out]; exact h)) W).mono ?_
    rintro e w' ⟨h1, t, rfl⟩
    exact ⟨h1, Lib.bytesWorld_below W _ t⟩
  have hms1 := HMS.out
  have HMN : Hid ((inN s.data.toList).length = m.size ∧ gB (inN s.data.toList) 0 = gB m.data.toList 0) := ⟨by rw [← hml, hms], by rw [← hml]⟩
  clear hv he hm hml hms
  by_cases h0 : m.size = 0
  · obtain ⟨f1, f2⟩ := str_none m h0
    have e1 : re = 5 := by
      rw [HE.out, if_pos]
      have : m.data.toList.length = m.size := by simp
      exact List.length_eq_zero_iff.1 (by omega)
    obtain rfl : rv = 0 := HV0.out (by rw [e1]; decide)
    subst e1
    clear HE HV0 KA HMS HSM
    go_enter Tryd.func14, Tryd.ntmps14
    go_wp2_with fail
    refine (KT.out _).mono ?_
    rintro e w1 ⟨rfl, rfl⟩
    go_wp2_with fail
    go_ret2
    exact ⟨rfl, b0 _⟩
  obtain ⟨f1, f2⟩ := str_facts m h0
  have hne : m.data.toList ≠ [] := by
    intro e
    have : m.data.toList.length = m.size := by simp
    rw [e] at this; simp at this; omega
  have HE1 : Hid (re = if (1 < m.size ∨ inM s.data.toList = true) ∧ gB m.data.toList 0 = 48 then 5 else if dTo m.data.toList m.size = false then 5 else if 9 < m.size then 1 else 0) := HE.out.trans (if_neg hne)
  have hbg := byte_gB m 0 (by omega)
  have h0i : 0 < m.size := by omega
  clear HE hne
  generalize hg0 : gB m.data.toList 0 = g0 at *
  have HG0 := Lib.hid hg0
  clear hg0
  obtain ⟨bz, hbz⟩ : ∃ b : Bool, decide (1 < m.size) = b := ⟨_, rfl⟩
  by_cases hA : 1 < m.size ∧ g0 = 48
  · obtain ⟨hA1, hA2⟩ := hA
    have v1 : decide ((1 : Int) < (m.size : Int)) = true := by simp; omega
    have e1 : re = 5 := HE1.out.trans (if_pos ⟨Or.inl hA1, hA2⟩)
    obtain rfl : rv = 0 := HV0.out (by rw [e1]; decide)
    subst hA2
    subst e1
    clear HE1 HV0 KA HMS HSM hbz HG0
    go_enter Tryd.func14, Tryd.ntmps14
    go_wp2_with fail
    refine (KT.out _).mono ?_
    rintro e w1 ⟨rfl, rfl⟩
    go_wp2_with fail
    go_ret2
    exact ⟨rfl, b0 _⟩
  obtain ⟨bm, hbm⟩ : ∃ b, b = inM s.data.toList := ⟨_, rfl⟩
  have HBD : Hid ((s.toList == [45, 48]) = (bm && (decide (m.size = 1) && decide (g0 = 48)))) := by
    unfold Hid
    rw [ByteArray.toList_eq, minus0, hbm, HMN.out.1, HMN.out.2]
  rw [← hbm] at HE1
  clear hbm HMN
  by_cases hB : 1 < m.size
  · have v1 : decide ((1 : Int) < (m.size : Int)) = true := by simp; omega
    have v2 : (g0 == 48) = false := by simpa using (fun h => hA ⟨hB, h⟩)
    have v3 : (s.toList == [45, 48]) = false := by rw [HBD.out]; simp; omega
    have HE2 : Hid (re = if dTo m.data.toList m.size = false then 5 else if 9 < m.size then 1 else 0) := HE1.out.trans (if_neg (fun h => hA ⟨hB, h.2⟩))
    clear HE1 hA hB HBD hbz
    go_enter Tryd.func14, Tryd.ntmps14
    go_wp2_with fail
    refine (KT.out _).mono ?_
    rintro e w1 ⟨rfl, rfl⟩
    go_wp2_with fail
    clear hbg
    go_loop [28] (fun i => ∃ k : Nat, k ≤ m.size ∧ i = .int .i64 k ∧ Hid (dTo m.data.toList k = true)) (fun i => m.size - (intOf i).toNat)
    case atStart => exact ⟨0, Nat.zero_le _, rfl, rfl⟩
    case round =>
      obtain ⟨k, hk', rfl, HA⟩ := hrel
      by_cases hk : k < m.size
      · have hbk := byte_gB m k hk
        have HN : Hid (dI (gB m.data.toList k) = false → re = 5 ∧ rv = 0) := fun h => by
          have e : re = 5 := HE2.out.trans (if_pos (dTo_no hk h))
          exact ⟨e, HV0.out (by rw [e]; decide)⟩
        have HY : Hid (dI (gB m.data.toList k) = true → dTo m.data.toList (k + 1) = true) := fun h => dTo_step HA.out h
        generalize gB m.data.toList k = c at *
        clear HA HE2
        by_cases c1 : c < 48
        · obtain ⟨rfl, rfl⟩ := HN.out (by unfold dI; simp; omega)
          have v5 : decide (c < 48) = true := by simpa using c1
          clear HN HY c1
          go_wp2_with fail
          go_ret2
          exact ⟨rfl, b0 _⟩
        have v5 : decide (c < 48) = false := by simpa using c1
        by_cases c2 : 57 < c
        · obtain ⟨rfl, rfl⟩ := HN.out (by unfold dI; simp; omega)
          have v6 : decide (57 < c) = true := by simpa using c2
          clear HN HY c1 c2
          go_wp2_with fail
          go_ret2
          exact ⟨rfl, b0 _⟩
        have v6 : decide (57 < c) = false := by simpa using c2
        have HY2 := Lib.hid (HY.out (by unfold dI; simp; omega))
        clear HN HY c1 c2
        go_wp2_with fail
        go_round
        case rel => exact ⟨k + 1, by omega, by go_num, HY2.out⟩
        case measure => simp [intOf]; omega
      obtain rfl : k = m.size := by omega
      have HE3 : Hid (re = if 9 < m.size then 1 else 0) := HE2.out.trans (if_neg (by simp [HA.out]))
      clear HE2
      by_cases h9 : 9 < m.size
      · have v5 : decide ((9 : Int) < (m.size : Int)) = true := by simp; omega
        have e : re = 1 := HE3.out.trans (if_pos h9)
        obtain rfl : rv = 0 := HV0.out (by rw [e]; decide)
        subst e
        clear HE3 HV0 KA h9
        go_wp2_with fail
        go_ret2
        exact ⟨rfl, b0 _⟩
      have v5 : decide ((9 : Int) < (m.size : Int)) = false := by simp; omega
      have e : re = 0 := HE3.out.trans (if_neg h9)
      subst e
      have KAA := Lib.hid (KA.out rfl)
      have hs18 : s.size ≤ 18 := by have := HSM.out; omega
      clear HE3 HV0 KA h9
      go_wp2_with fail
      refine (KAA.out _ hs18).mono ?_
      rintro e w2 ⟨rfl, hb2⟩
      go_wp2_with fail
      go_ret2
      exact ⟨rfl, hb2⟩
  have hm1 : m.size = 1 := by omega
  have v1 : decide ((1 : Int) < (m.size : Int)) = false := by simp; omega
  by_cases hC : bm = true ∧ g0 = 48
  · have v3 : (s.toList == [45, 48]) = true := by rw [HBD.out]; simp [hC.1, hC.2, hm1]
    have e1 : re = 5 := HE1.out.trans (if_pos ⟨Or.inr hC.1, hC.2⟩)
    obtain rfl : rv = 0 := HV0.out (by rw [e1]; decide)
    subst e1
    clear HE1 HV0 KA HMS HSM hbz hC hA HBD
    go_enter Tryd.func14, Tryd.ntmps14
    go_wp2_with fail
    refine (KT.out _).mono ?_
    rintro e w1 ⟨rfl, rfl⟩
    go_wp2_with fail
    go_ret2
    exact ⟨rfl, b0 _⟩
  · have v3 : (s.toList == [45, 48]) = false := by
      rw [HBD.out]; simp; intro h1 _ h2; exact hC ⟨h1, h2⟩
    have HE2 : Hid (re = if dTo m.data.toList m.size = false then 5 else if 9 < m.size then 1 else 0) := HE1.out.trans (if_neg (fun h => by rcases h.1 with h1 | h1; exact hB h1; exact hC ⟨h1, h.2⟩))
    clear HE1 hA hB hC HBD hbz hm1
    go_enter Tryd.func14, Tryd.ntmps14
    go_wp2_with fail
    refine (KT.out _).mono ?_
    rintro e w1 ⟨rfl, rfl⟩
    go_wp2_with fail
    clear hbg
    go_loop [28] (fun i => ∃ k : Nat, k ≤ m.size ∧ i = .int .i64 k ∧ Hid (dTo m.data.toList k = true)) (fun i => m.size - (intOf i).toNat)
    case atStart => exact ⟨0, Nat.zero_le _, rfl, rfl⟩
    case round =>
      obtain ⟨k, hk', rfl, HA⟩ := hrel
      by_cases hk : k < m.size
      · have hbk := byte_gB m k hk
        have HN : Hid (dI (gB m.data.toList k) = false → re = 5 ∧ rv = 0) := fun h => by
          have e : re = 5 := HE2.out.trans (if_pos (dTo_no hk h))
          exact ⟨e, HV0.out (by rw [e]; decide)⟩
        have HY : Hid (dI (gB m.data.toList k) = true → dTo m.data.toList (k + 1) = true) := fun h => dTo_step HA.out h
        generalize gB m.data.toList k = c at *
        clear HA HE2
        by_cases c1 : c < 48
        · obtain ⟨rfl, rfl⟩ := HN.out (by unfold dI; simp; omega)
          have v5 : decide (c < 48) = true := by simpa using c1
          clear HN HY c1
          go_wp2_with fail
          go_ret2
          exact ⟨rfl, b0 _⟩
        have v5 : decide (c < 48) = false := by simpa using c1
        by_cases c2 : 57 < c
        · obtain ⟨rfl, rfl⟩ := HN.out (by unfold dI; simp; omega)
          have v6 : decide (57 < c) = true := by simpa using c2
          clear HN HY c1 c2
          go_wp2_with fail
          go_ret2
          exact ⟨rfl, b0 _⟩
        have v6 : decide (57 < c) = false := by simpa using c2
        have HY2 := Lib.hid (HY.out (by unfold dI; simp; omega))
        clear HN HY c1 c2
        go_wp2_with fail
        go_round
        case rel => exact ⟨k + 1, by omega, by go_num, HY2.out⟩
        case measure => simp [intOf]; omega
      obtain rfl : k = m.size := by omega
      have HE3 : Hid (re = if 9 < m.size then 1 else 0) := HE2.out.trans (if_neg (by simp [HA.out]))
      clear HE2
      by_cases h9 : 9 < m.size
      · have v5 : decide ((9 : Int) < (m.size : Int)) = true := by simp; omega
        have e : re = 1 := HE3.out.trans (if_pos h9)
        obtain rfl : rv = 0 := HV0.out (by rw [e]; decide)
        subst e
        clear HE3 HV0 KA h9
        go_wp2_with fail
        go_ret2
        exact ⟨rfl, b0 _⟩
      have v5 : decide ((9 : Int) < (m.size : Int)) = false := by simp; omega
      have e : re = 0 := HE3.out.trans (if_neg h9)
      subst e
      have KAA := Lib.hid (KA.out rfl)
      have hs18 : s.size ≤ 18 := by have := HSM.out; omega
      clear HE3 HV0 KA h9
      go_wp2_with fail
      refine (KAA.out _ hs18).mono ?_
      rintro e w2 ⟨rfl, hb2⟩
      go_wp2_with fail
      go_ret2
      exact ⟨rfl, hb2⟩
--%%
set_option maxRecDepth 100000 in
set_option maxHeartbeats 6400000 in
theorem rint_c (s : ByteArray) (w : World) (hs : s.size ≤ 1000000) (rv re : Int) (hv : Hid (rv = inV s.data.toList)) (he : Hid (re = inE s.data.toList)) :
    Calls Tryd.prog 15 #[.string s] w fun e w' => e = .returned (.tuple #[.int .i64 rv, .int .i64 re]) ∧ w = w' := by
  have hsl : s.data.toList.length = s.size := by simp
  have key : ∀ (M : ByteArray) (BM : Bool), inM s.data.toList = BM → M.data.toList = inN s.data.toList →
      Hid (re = if M.size = 0 then 5 else if (1 < M.size ∨ BM = true) ∧ gB M.data.toList 0 = 48 then 5 else if dTo M.data.toList M.size = false then 5 else if 9 < M.size then 1 else 0) ∧
      Hid (rv = if re = 0 then (if BM = true then - wV M.data.toList M.size else wV M.data.toList M.size) else 0) := fun M BM h1 h2 => by
    have hml : M.data.toList.length = M.size := by simp
    constructor
    · unfold Hid
      rw [he.out]
      unfold inE
      rw [← h2, h1, hml]
      by_cases h0 : M.size = 0
      · rw [if_pos h0, if_pos (List.length_eq_zero_iff.1 (by omega))]
      · rw [if_neg h0, if_neg (fun e => h0 (by rw [← hml, e]; rfl))]
    · unfold Hid
      rw [hv.out, he.out]
      unfold inV
      rw [h1, ← h2, hml]
  by_cases hz : s.size = 0
  · have hnil : s.data.toList = [] := List.length_eq_zero_iff.1 (by omega)
    obtain ⟨HE, HV⟩ := key s false (by rw [hnil]; rfl) (by rw [hnil]; rfl)
    have e1 : re = 5 := HE.out.trans (if_pos hz)
    have e2 : rv = 0 := by rw [HV.out, e1]; rfl
    obtain ⟨f1, f2⟩ := str_none s hz
    subst e1; subst e2
    clear key hv he HE HV hnil
    go_enter Tryd.func15, Tryd.ntmps15
    go_wp2_with fail
    go_ret2
    exact ⟨rfl, rfl⟩
  have hzp : 0 < s.size := by omega
  have hsne : s.data.toList ≠ [] := sl_nil2 hz
  have hbs := byte_gB s 0 hzp
  by_cases h45 : gB s.data.toList 0 = 45
  · have hm1 : inM s.data.toList = true := by unfold inM; simp [hsne, h45]
    have hm2 : (s.extract 1 s.size).data.toList = inN s.data.toList := by unfold inN; rw [hm1, if_pos rfl, Lib.extract_to_end]
    obtain ⟨bm, hbm⟩ : ∃ bm : Bool, bm = true := ⟨_, rfl⟩
    obtain ⟨HE, HV⟩ := key _ bm (by rw [hm1, hbm]) hm2
    have HBM := Lib.hid hbm
    clear hbm
    have hms : (s.extract 1 s.size).size ≤ s.size := by rw [ByteArray.size_extract]; omega
    rw [h45] at hbs
    generalize hM : s.extract 1 s.size = M at *
    clear key hv he hm1 hm2 hsne h45 hz hsl
    have hM9 : M.size ≤ 1000000 := by omega
    have HV0 : Hid (re ≠ 0 → rv = 0) := fun h => by rw [HV.out, if_neg h]
    by_cases h0 : M.size = 0
    · obtain ⟨f1, f2⟩ := str_none M h0
      have e1 : re = 5 := HE.out.trans (if_pos h0)
      obtain rfl : rv = 0 := HV0.out (by rw [e1]; decide)
      subst e1
      clear HE HV HV0
      go_enter Tryd.func15, Tryd.ntmps15
      go_wp2_with fail
      go_ret2
      exact ⟨rfl, rfl⟩
    obtain ⟨f1, f2⟩ := str_facts M h0
    have HE1 : Hid (re = if (1 < M.size ∨ bm = true) ∧ gB M.data.toList 0 = 48 then 5 else if dTo M.data.toList M.size = false then 5 else if 9 < M.size then 1 else 0) := HE.out.trans (if_neg h0)
    have HNO : Hid (dTo M.data.toList M.size = false → re = 5) := fun h => by
      rw [HE1.out]
      by_cases hq : (1 < M.size ∨ bm = true) ∧ gB M.data.toList 0 = 48
      · exact if_pos hq
      · rw [if_neg hq]; exact if_pos h
    have hbg0 := Lib.hid (byte_gB M 0 (by omega))
    have hpos : 0 < M.size := by omega
    clear HE
    go_enter Tryd.func15, Tryd.ntmps15
    go_wp2_with fail
    go_loop [6, 7] (fun q i => ∃ k : Nat, k ≤ M.size ∧ i = .int .i64 k ∧ q = .int .i64 (wV M.data.toList (min k 9)) ∧ Hid (dTo M.data.toList k = true)) (fun _ i => M.size - (intOf i).toNat)
    case atStart => exact ⟨0, Nat.zero_le _, rfl, rfl, rfl⟩
    case round =>
      obtain ⟨k, hk', rfl, rfl, HA⟩ := hrel
      by_cases hk : k < M.size
      · have hbk := byte_gB M k hk
        have hbd := gB_bd M.data.toList k
        have HN : Hid (dI (gB M.data.toList k) = false → re = 5 ∧ rv = 0) := fun h => by
          have e : re = 5 := HNO.out (dTo_no hk h)
          exact ⟨e, HV0.out (by rw [e]; decide)⟩
        have HY : Hid (dI (gB M.data.toList k) = true → dTo M.data.toList (k + 1) = true) := fun h => dTo_step HA.out h
        have HWB : Hid (k < 9 → 0 ≤ wV M.data.toList (min k 9) ∧ wV M.data.toList (min k 9) < 1000000000) := fun h => by
          rw [Nat.min_eq_left (by omega)]
          have := wV_bd M.data.toList k HA.out
          have h2 : (10 : Int) ^ k ≤ 10 ^ 9 := by
            have : 10 ^ k ≤ 10 ^ 9 := Nat.pow_le_pow_right (by decide) (by omega)
            exact_mod_cast this
          omega
        have HWS : Hid (k < 9 → wV M.data.toList (min (k + 1) 9) = 10 * wV M.data.toList (min k 9) + (gB M.data.toList k - 48)) := fun h => by
          rw [Nat.min_eq_left (by omega), Nat.min_eq_left (by omega)]; rfl
        have HWT : Hid (¬ k < 9 → wV M.data.toList (min (k + 1) 9) = wV M.data.toList (min k 9)) := fun h => by
          rw [Nat.min_eq_right (by omega), Nat.min_eq_right (by omega)]
        generalize gB M.data.toList k = c at *
        generalize wV M.data.toList (min k 9) = q at *
        obtain ⟨bd0, bd1⟩ := hbd
        clear HA HE1 HV HNO
        by_cases c1 : c < 48
        · obtain ⟨rfl, rfl⟩ := HN.out (by unfold dI; simp; omega)
          have v5 : decide (c < 48) = true := by simpa using c1
          clear HN HY c1
          go_wp2_with fail
          go_ret2
          exact ⟨rfl, rfl⟩
        have v5 : decide (c < 48) = false := by simpa using c1
        by_cases c2 : 57 < c
        · obtain ⟨rfl, rfl⟩ := HN.out (by unfold dI; simp; omega)
          have v6 : decide (57 < c) = true := by simpa using c2
          clear HN HY c1 c2
          go_wp2_with fail
          go_ret2
          exact ⟨rfl, rfl⟩
        have v6 : decide (57 < c) = false := by simpa using c2
        have HY2 := Lib.hid (HY.out (by unfold dI; simp; omega))
        have c3 : 48 ≤ c := by omega
        have c4 : c ≤ 57 := by omega
        clear HN HY c1 c2
        by_cases h9 : k < 9
        · have v7 : decide (k < 9) = true := by simp; omega
          have v7b : decide ((k : Int) < 9) = true := by simp; omega
          obtain ⟨w0, w1⟩ := HWB.out h9
          have HW2 := Lib.hid (HWS.out h9)
          clear HWB HWS HWT
          go_wp2_with fail
          go_round
          case rel => exact ⟨k + 1, by omega, by go_num, by rw [HW2.out], HY2.out⟩
          case measure => simp [intOf]; omega
        · have v7 : decide (k < 9) = false := by simp; omega
          have v7b : decide ((k : Int) < 9) = false := by simp; omega
          have HW2 := Lib.hid (HWT.out h9)
          clear HWB HWS HWT
          go_wp2_with fail
          go_round
          case rel => exact ⟨k + 1, by omega, by go_num, by rw [HW2.out], HY2.out⟩
          case measure => simp [intOf]; omega
      obtain rfl : k = M.size := by omega
      have HE2 : Hid (re = if (1 < M.size ∨ bm = true) ∧ gB M.data.toList 0 = 48 then 5 else if 9 < M.size then 1 else 0) := by
        unfold Hid
        rw [HE1.out]
        by_cases hq : (1 < M.size ∨ bm = true) ∧ gB M.data.toList 0 = 48
        · rw [if_pos hq, if_pos hq]
        · rw [if_neg hq, if_neg hq, if_neg (by simp [HA.out])]
      have hb0 := hbg0.out
      have HVF : Hid (re = 0 → rv = (if bm = true then - wV M.data.toList (min M.size 9) else wV M.data.toList (min M.size 9))) := fun h => by
        have h9 : M.size ≤ 9 := by
          have := HE2.out
          rw [h] at this
          split at this
          · cases this
          · split at this
            · cases this
            · omega
        rw [HV.out, if_pos h, Nat.min_eq_left h9]
      have HWB : Hid (0 ≤ wV M.data.toList (min M.size 9) ∧ wV M.data.toList (min M.size 9) < 1000000000) := by
        have hd : dTo M.data.toList (min M.size 9) = true := dTo_iff.2 fun i hi => dTo_iff.1 HA.out i (by omega)
        have := wV_bd M.data.toList _ hd
        have h2 : (10 : Int) ^ (min M.size 9) ≤ 10 ^ 9 := by
          have : 10 ^ (min M.size 9) ≤ 10 ^ 9 := Nat.pow_le_pow_right (by decide) (by omega)
          exact_mod_cast this
        exact ⟨this.1, by omega⟩
      obtain ⟨w0, w1⟩ := HWB.out
      generalize gB M.data.toList 0 = g0 at *
      generalize wV M.data.toList (min M.size 9) = q at *
      clear HE1 HNO HA HV hbg0 HWB
      by_cases hg : g0 = 48
      · have v1 : (g0 == 48) = true := by simpa using hg
        by_cases hB : 1 < M.size ∨ bm = true
        · have e1 : re = 5 := HE2.out.trans (if_pos ⟨hB, hg⟩)
          obtain rfl : rv = 0 := HV0.out (by rw [e1]; decide)
          subst e1
          clear HE2 HVF HV0
          by_cases h1 : 1 < M.size
          · have v2 : decide ((1 : Int) < (M.size : Int)) = true := by simp; omega
            have v2b : decide (1 < M.size) = true := by simp; omega
            clear hB
            go_wp2_with fail
            go_ret2
            exact ⟨rfl, rfl⟩
          · have v2 : decide ((1 : Int) < (M.size : Int)) = false := by simp; omega
            have v2b : decide (1 < M.size) = false := by simp; omega
            clear hB
            go_wp2_with fail
            go_ret2
            exact ⟨rfl, rfl⟩
        · have HE3 : Hid (re = if 9 < M.size then 1 else 0) := HE2.out.trans (if_neg (fun h => hB h.1))
          have h1 : ¬ 1 < M.size := fun h => hB (Or.inl h)
          have v2 : decide ((1 : Int) < (M.size : Int)) = false := by simp; omega
          have v2b : decide (1 < M.size) = false := by simp; omega
          have v3 : decide ((9 : Int) < (M.size : Int)) = false := by simp; omega
          have v3b : decide (9 < M.size) = false := by simp; omega
          have e1 : re = 0 := HE3.out.trans (if_neg (by omega))
          exact (hB (Or.inr HBM.out)).elim
      have v1 : (g0 == 48) = false := by simpa using hg
      have HE3 : Hid (re = if 9 < M.size then 1 else 0) := HE2.out.trans (if_neg (fun h => hg h.2))
      clear HE2
      by_cases h9 : 9 < M.size
      · have v3 : decide ((9 : Int) < (M.size : Int)) = true := by simp; omega
        have v3b : decide (9 < M.size) = true := by simp; omega
        have e1 : re = 1 := HE3.out.trans (if_pos h9)
        obtain rfl : rv = 0 := HV0.out (by rw [e1]; decide)
        subst e1
        clear HE3 HVF HV0
        go_wp2_with fail
        go_ret2
        exact ⟨rfl, rfl⟩
      have v3 : decide ((9 : Int) < (M.size : Int)) = false := by simp; omega
      have v3b : decide (9 < M.size) = false := by simp; omega
      have e1 : re = 0 := HE3.out.trans (if_neg h9)
      have hv := HVF.out e1
      rw [if_pos HBM.out] at hv
      subst e1
      subst hv
      clear HE3 HVF HV0
      go_wp2_with fail
      go_ret2
      exact ⟨rfl, rfl⟩
  · have hm1 : inM s.data.toList = false := by unfold inM; simp [h45]
    have hm2 : s.data.toList = inN s.data.toList := by unfold inN; rw [hm1]; rfl
    obtain ⟨bm, hbm⟩ : ∃ bm : Bool, bm = false := ⟨_, rfl⟩
    obtain ⟨HE, HV⟩ := key s bm (by rw [hm1, hbm]) hm2
    have HBM := Lib.hid hbm
    clear hbm
    have v0 : (gB s.data.toList 0 == 45) = false := by simpa using h45
    clear key hv he hm1 hm2 hsne h45 hz hsl
    have hM9 : s.size ≤ 1000000 := by omega
    have HV0 : Hid (re ≠ 0 → rv = 0) := fun h => by rw [HV.out, if_neg h]
    by_cases h0 : s.size = 0
    · obtain ⟨f1, f2⟩ := str_none s h0
      have e1 : re = 5 := HE.out.trans (if_pos h0)
      obtain rfl : rv = 0 := HV0.out (by rw [e1]; decide)
      subst e1
      clear HE HV HV0
      go_enter Tryd.func15, Tryd.ntmps15
      go_wp2_with fail
      go_ret2
      exact ⟨rfl, rfl⟩
    obtain ⟨f1, f2⟩ := str_facts s h0
    have HE1 : Hid (re = if (1 < s.size ∨ bm = true) ∧ gB s.data.toList 0 = 48 then 5 else if dTo s.data.toList s.size = false then 5 else if 9 < s.size then 1 else 0) := HE.out.trans (if_neg h0)
    have HNO : Hid (dTo s.data.toList s.size = false → re = 5) := fun h => by
      rw [HE1.out]
      by_cases hq : (1 < s.size ∨ bm = true) ∧ gB s.data.toList 0 = 48
      · exact if_pos hq
      · rw [if_neg hq]; exact if_pos h
    have hbg0 := Lib.hid (byte_gB s 0 (by omega))
    have hpos : 0 < s.size := by omega
    clear HE
    go_enter Tryd.func15, Tryd.ntmps15
    go_wp2_with fail
    go_loop [6, 7] (fun q i => ∃ k : Nat, k ≤ s.size ∧ i = .int .i64 k ∧ q = .int .i64 (wV s.data.toList (min k 9)) ∧ Hid (dTo s.data.toList k = true)) (fun _ i => s.size - (intOf i).toNat)
    case atStart => exact ⟨0, Nat.zero_le _, rfl, rfl, rfl⟩
    case round =>
      obtain ⟨k, hk', rfl, rfl, HA⟩ := hrel
      by_cases hk : k < s.size
      · have hbk := byte_gB s k hk
        have hbd := gB_bd s.data.toList k
        have HN : Hid (dI (gB s.data.toList k) = false → re = 5 ∧ rv = 0) := fun h => by
          have e : re = 5 := HNO.out (dTo_no hk h)
          exact ⟨e, HV0.out (by rw [e]; decide)⟩
        have HY : Hid (dI (gB s.data.toList k) = true → dTo s.data.toList (k + 1) = true) := fun h => dTo_step HA.out h
        have HWB : Hid (k < 9 → 0 ≤ wV s.data.toList (min k 9) ∧ wV s.data.toList (min k 9) < 1000000000) := fun h => by
          rw [Nat.min_eq_left (by omega)]
          have := wV_bd s.data.toList k HA.out
          have h2 : (10 : Int) ^ k ≤ 10 ^ 9 := by
            have : 10 ^ k ≤ 10 ^ 9 := Nat.pow_le_pow_right (by decide) (by omega)
            exact_mod_cast this
          omega
        have HWS : Hid (k < 9 → wV s.data.toList (min (k + 1) 9) = 10 * wV s.data.toList (min k 9) + (gB s.data.toList k - 48)) := fun h => by
          rw [Nat.min_eq_left (by omega), Nat.min_eq_left (by omega)]; rfl
        have HWT : Hid (¬ k < 9 → wV s.data.toList (min (k + 1) 9) = wV s.data.toList (min k 9)) := fun h => by
          rw [Nat.min_eq_right (by omega), Nat.min_eq_right (by omega)]
        generalize gB s.data.toList k = c at *
        generalize wV s.data.toList (min k 9) = q at *
        obtain ⟨bd0, bd1⟩ := hbd
        clear HA HE1 HV HNO
        by_cases c1 : c < 48
        · obtain ⟨rfl, rfl⟩ := HN.out (by unfold dI; simp; omega)
          have v5 : decide (c < 48) = true := by simpa using c1
          clear HN HY c1
          go_wp2_with fail
          go_ret2
          exact ⟨rfl, rfl⟩
        have v5 : decide (c < 48) = false := by simpa using c1
        by_cases c2 : 57 < c
        · obtain ⟨rfl, rfl⟩ := HN.out (by unfold dI; simp; omega)
          have v6 : decide (57 < c) = true := by simpa using c2
          clear HN HY c1 c2
          go_wp2_with fail
          go_ret2
          exact ⟨rfl, rfl⟩
        have v6 : decide (57 < c) = false := by simpa using c2
        have HY2 := Lib.hid (HY.out (by unfold dI; simp; omega))
        have c3 : 48 ≤ c := by omega
        have c4 : c ≤ 57 := by omega
        clear HN HY c1 c2
        by_cases h9 : k < 9
        · have v7 : decide (k < 9) = true := by simp; omega
          have v7b : decide ((k : Int) < 9) = true := by simp; omega
          obtain ⟨w0, w1⟩ := HWB.out h9
          have HW2 := Lib.hid (HWS.out h9)
          clear HWB HWS HWT
          go_wp2_with fail
          go_round
          case rel => exact ⟨k + 1, by omega, by go_num, by rw [HW2.out], HY2.out⟩
          case measure => simp [intOf]; omega
        · have v7 : decide (k < 9) = false := by simp; omega
          have v7b : decide ((k : Int) < 9) = false := by simp; omega
          have HW2 := Lib.hid (HWT.out h9)
          clear HWB HWS HWT
          go_wp2_with fail
          go_round
          case rel => exact ⟨k + 1, by omega, by go_num, by rw [HW2.out], HY2.out⟩
          case measure => simp [intOf]; omega
      obtain rfl : k = s.size := by omega
      have HE2 : Hid (re = if (1 < s.size ∨ bm = true) ∧ gB s.data.toList 0 = 48 then 5 else if 9 < s.size then 1 else 0) := by
        unfold Hid
        rw [HE1.out]
        by_cases hq : (1 < s.size ∨ bm = true) ∧ gB s.data.toList 0 = 48
        · rw [if_pos hq, if_pos hq]
        · rw [if_neg hq, if_neg hq, if_neg (by simp [HA.out])]
      have hb0 := hbg0.out
      have HVF : Hid (re = 0 → rv = (if bm = true then - wV s.data.toList (min s.size 9) else wV s.data.toList (min s.size 9))) := fun h => by
        have h9 : s.size ≤ 9 := by
          have := HE2.out
          rw [h] at this
          split at this
          · cases this
          · split at this
            · cases this
            · omega
        rw [HV.out, if_pos h, Nat.min_eq_left h9]
      have HWB : Hid (0 ≤ wV s.data.toList (min s.size 9) ∧ wV s.data.toList (min s.size 9) < 1000000000) := by
        have hd : dTo s.data.toList (min s.size 9) = true := dTo_iff.2 fun i hi => dTo_iff.1 HA.out i (by omega)
        have := wV_bd s.data.toList _ hd
        have h2 : (10 : Int) ^ (min s.size 9) ≤ 10 ^ 9 := by
          have : 10 ^ (min s.size 9) ≤ 10 ^ 9 := Nat.pow_le_pow_right (by decide) (by omega)
          exact_mod_cast this
        exact ⟨this.1, by omega⟩
      obtain ⟨w0, w1⟩ := HWB.out
      generalize gB s.data.toList 0 = g0 at *
      generalize wV s.data.toList (min s.size 9) = q at *
      clear HE1 HNO HA HV hbg0 HWB
      by_cases hg : g0 = 48
      · have v1 : (g0 == 48) = true := by simpa using hg
        by_cases hB : 1 < s.size ∨ bm = true
        · have e1 : re = 5 := HE2.out.trans (if_pos ⟨hB, hg⟩)
          obtain rfl : rv = 0 := HV0.out (by rw [e1]; decide)
          subst e1
          clear HE2 HVF HV0
          by_cases h1 : 1 < s.size
          · have v2 : decide ((1 : Int) < (s.size : Int)) = true := by simp; omega
            have v2b : decide (1 < s.size) = true := by simp; omega
            clear hB
            go_wp2_with fail
            go_ret2
            exact ⟨rfl, rfl⟩
          · have v2 : decide ((1 : Int) < (s.size : Int)) = false := by simp; omega
            have v2b : decide (1 < s.size) = false := by simp; omega
            exact absurd (hB.resolve_left h1) (by rw [HBM.out]; decide)
        · have HE3 : Hid (re = if 9 < s.size then 1 else 0) := HE2.out.trans (if_neg (fun h => hB h.1))
          have h1 : ¬ 1 < s.size := fun h => hB (Or.inl h)
          have v2 : decide ((1 : Int) < (s.size : Int)) = false := by simp; omega
          have v2b : decide (1 < s.size) = false := by simp; omega
          have v3 : decide ((9 : Int) < (s.size : Int)) = false := by simp; omega
          have v3b : decide (9 < s.size) = false := by simp; omega
          have e1 : re = 0 := HE3.out.trans (if_neg (by omega))
          have hv := HVF.out e1
          rw [if_neg (by rw [HBM.out]; decide)] at hv
          subst e1
          subst hv
          clear HE2 HE3 HVF HV0
          clear hB
          go_wp2_with fail
          go_ret2
          exact ⟨rfl, rfl⟩
      have v1 : (g0 == 48) = false := by simpa using hg
      have HE3 : Hid (re = if 9 < s.size then 1 else 0) := HE2.out.trans (if_neg (fun h => hg h.2))
      clear HE2
      by_cases h9 : 9 < s.size
      · have v3 : decide ((9 : Int) < (s.size : Int)) = true := by simp; omega
        have v3b : decide (9 < s.size) = true := by simp; omega
        have e1 : re = 1 := HE3.out.trans (if_pos h9)
        obtain rfl : rv = 0 := HV0.out (by rw [e1]; decide)
        subst e1
        clear HE3 HVF HV0
        go_wp2_with fail
        go_ret2
        exact ⟨rfl, rfl⟩
      have v3 : decide ((9 : Int) < (s.size : Int)) = false := by simp; omega
      have v3b : decide (9 < s.size) = false := by simp; omega
      have e1 : re = 0 := HE3.out.trans (if_neg h9)
      have hv := HVF.out e1
      rw [if_neg (by rw [HBM.out]; decide)] at hv
      subst e1
      subst hv
      clear HE3 HVF HV0
      go_wp2_with fail
      go_ret2
      exact ⟨rfl, rfl⟩
--%%
end Go.Proofs.YtohdmfedappenaaDoor
