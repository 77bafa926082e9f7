/-
  Layer 7's law WordLines: its walk. Conditions as named.
-/
import Derived.Test.YtohdmfedappenaaDoorLaw07
import Derived.Test.YtohdmfedappenaaDoorLinesP
namespace Go.Proofs.YtohdmfedappenaaDoor
set_option linter.unusedVariables false
open Go.RowKit
theorem mkB_of (s : ByteArray) : mkB s.data.toList = s := rfl
theorem gB_at (l : List UInt8) (i : Nat) (h : i < l.length) : gB l i = (l[i].toNat : Int) := by unfold gB; simp [List.getD, List.getElem?_eq_getElem h]
theorem mkB_size (l : List UInt8) : (mkB l).size = l.length := by show l.toArray.size = _; simp
set_option maxRecDepth 100000 in
set_option maxHeartbeats 6400000 in
theorem wordLines_walk (s : ByteArray) (w : World) (hs : s.size ≤ 9223372036854775807) (hm : ML w) :
    Calls Tryd.prog 7 #[.string s] w fun e w' => e = .returned (.bool true) ∧ Below w.heap.size w w' := by
  have HM := Lib.hid hm
  clear hm
  by_cases h2000 : 2000 < s.size
  · have v : decide ((2000 : Int) < (s.size : Int)) = true := by simp; omega
    go_enter Tryd.func7, Tryd.ntmps7
    go_wp2_with fail
    refine (reads_c _ HM.out).mono ?_
    rintro e w1 ⟨rfl, hb1⟩
    go_wp2_with fail
    go_ret
    exact ⟨rfl, hb1⟩
  have v : decide ((2000 : Int) < (s.size : Int)) = false := by simp; omega
  have hsl : s.data.toList.length = s.size := by simp
  have KL := Lib.hid (fun W h => lines_c s W (by omega) h)
  by_cases h0 : s.size = 0
  · obtain ⟨f1, f2⟩ := str_none s h0
    have e : lnL s.data.toList = [] := by unfold lnL; rw [if_pos (List.length_eq_zero_iff.1 (by omega))]
    have KL2 : Hid (∀ W, ML W → Calls Tryd.prog 18 #[.string s] W fun e w' => (∃ A c, e = .returned (.slice A 0 c)) ∧ Below W.heap.size W w') := fun W h => by
      refine (KL.out W h).mono ?_
      rintro e' w' ⟨⟨A, c, rfl, _⟩, hb⟩
      rw [e]
      exact ⟨⟨A, c, rfl⟩, hb⟩
    clear KL e hsl
    go_enter Tryd.func7, Tryd.ntmps7
    go_wp2_with fail
    refine (reads_c _ HM.out).mono ?_
    rintro e w1 ⟨rfl, hb1⟩
    go_wp2_with fail
    refine (KL2.out _ (HM.out.t hb1)).mono ?_
    rintro e w2 ⟨⟨A, c, rfl⟩, hb2⟩
    go_wp2_with fail
    go_ret
    exact ⟨rfl, bT hb1 hb2⟩
  obtain ⟨f1, f2⟩ := str_facts s h0
  obtain ⟨t, ht⟩ : ∃ t : ByteArray, t = ⟨(Lib.trimSuffix s.data.toList [10]).toArray⟩ := ⟨_, rfl⟩
  have hne : s.data.toList ≠ [] := fun e => h0 (by rw [← hsl, e]; rfl)
  have hln : lnL s.data.toList = Lib.splitB ⟨#[10]⟩ 0 (Lib.countB t ⟨#[10]⟩) t := by unfold lnL; rw [if_neg hne, ← ht]
  obtain ⟨g1, g2⟩ := split_facts _ t rfl
  have hPl := splitN t
  have htf := trim_facts s.data.toList hne
  have htl : t.data.toList = Lib.trimSuffix s.data.toList [10] := by rw [ht]
  rw [← htl] at htf
  have htz : t.size ≤ s.size := by
    rw [ht, ← hsl]
    show (Lib.trimSuffix s.data.toList [10]).toArray.size ≤ _
    unfold Lib.trimSuffix
    split <;> simp
  obtain ⟨P, hP⟩ : ∃ P, P = lnL s.data.toList := ⟨_, rfl⟩
  rw [← hln, ← hP] at g1 g2 hPl
  obtain ⟨N, hN⟩ : ∃ N, N = P.length := ⟨_, rfl⟩
  have hN1 : 1 ≤ N := by omega
  have hQl : (P.map (·.data.toList)).length = N := by rw [List.length_map, hN]
  obtain ⟨Q, hQ⟩ : ∃ Q, Q = P.map (·.data.toList) := ⟨_, rfl⟩
  rw [← hQ] at g1 g2 hQl
  have HJ : Hid (jnT Q N = t.data.toList) := by unfold Hid; rw [← hQl, jnT_take Q _ (Nat.le_refl _), List.take_length, g2]
  have HJB : Hid (∀ k, k ≤ N → (jnT Q k).length ≤ 2000) := fun k hk => by
    have := jnT_mono Q k N hk
    rw [HJ.out] at this
    have h3 : t.data.toList.length = t.size := by simp
    omega
  have HJS : Hid (∀ k, jnT Q (k + 1) = jnT Q k ++ ((if k = 0 then [] else [10]) ++ Q.getD k [])) := fun k => rfl
  have HQP : Hid (∀ k, k < N → Q.getD k [] = (P.getD k st0).data.toList) := fun k hk => by
    have h1 : k < P.length := by omega
    rw [hQ]; simp [List.getD, h1]
  have HNO : Hid (∀ k, k < N → ∀ i, i < (P.getD k st0).size → gB (P.getD k st0).data.toList i ≠ 10) := fun k hk i hi he => by
    have h1 : k < Q.length := by omega
    have h2 := g1 (Q.getD k []) (by
      have : Q.getD k [] = Q[k] := by simp [List.getD, List.getElem?_eq_getElem h1]
      rw [this]; exact List.getElem_mem _)
    rw [HQP.out k hk] at h2
    have h3 : (P.getD k st0).data.toList.length = (P.getD k st0).size := by simp
    apply h2
    have hi' : i < (P.getD k st0).data.toList.length := by omega
    have e := gB_at _ i hi'
    rw [e] at he
    have h5 : ((P.getD k st0).data.toList[i]).toNat = (10 : UInt8).toNat := by show _ = 10; omega
    rw [← UInt8.toNat_inj.1 h5]; exact List.getElem_mem _
  have HTF := Lib.hid htf
  have KL2 : Hid (∀ W, ML W → Calls Tryd.prog 18 #[.string s] W fun e w' => (∃ A c, e = .returned (.slice A N c) ∧ StSl w' A N P) ∧ Below W.heap.size W w') := fun W h => by
    refine (KL.out W h).mono ?_
    rintro e' w' ⟨⟨A, c, rfl, h2⟩, hb⟩
    rw [← hP, ← hN] at h2 ⊢
    exact ⟨⟨A, c, rfl, h2⟩, hb⟩
  have HSL := Lib.hid hsl
  have hl1 : s.size - 1 < s.size := Nat.sub_lt (Nat.pos_of_ne_zero h0) (by decide)
  have hlastb := Lib.hid (byte_gB s (s.size - 1) hl1)
  have hspos : 0 < s.size := by omega
  have HN2 : Hid (N ≤ 2001) := by
    have := countB_le t
    have h4 := hPl
    unfold Hid; omega
  have hn2 := HN2.out
  clear KL hln g1 g2 hPl htf htl hP hN hQl hQ hsl hne ht h0 htz
  go_enter Tryd.func7, Tryd.ntmps7
  go_wp2_with fail
  refine (reads_c _ HM.out).mono ?_
  rintro e w1 ⟨rfl, hb1⟩
  go_wp2_with fail
  refine (KL2.out _ (HM.out.t hb1)).mono ?_
  rintro e w2 ⟨⟨A, c, rfl, hsl⟩, hb2⟩
  have HST := Lib.hid hsl
  have hB2 := bT hb1 hb2
  clear hsl KL2
  go_wp2_with fail
  go_loop [4, 22] (fun u i => ∃ k : Nat, k ≤ N ∧ i = .int .i64 k ∧ u = .string (mkB (jnT Q k))) (fun _ i => N - (intOf i).toNat)
  case atStart => exact ⟨0, Nat.zero_le _, rfl, rfl⟩
  case round =>
    obtain ⟨k, hk', rfl, rfl⟩ := hrel
    by_cases hk : k < N
    · obtain ⟨b, off, rfl, hlt, hat⟩ := HST.out.2.2 (by omega)
      have c0 : w2.cell? ⟨b, off + k, none⟩ = some (.string (P.getD k st0)) := by
        have := hat k hk 0 _ rfl
        simpa using this
      have hj1 := HJB.out k hk'
      have hj2 := HJB.out (k + 1) (by omega)
      have hjs := HJS.out k
      rw [HQP.out k hk] at hjs
      have HNK := Lib.hid (HNO.out k hk)
      have HGX : Hid (∀ i (h : i < (P.getD k st0).size), (((P.getD k st0)[i]).toNat : Int) = gB (P.getD k st0).data.toList i) := fun i h => byte_gB _ i h
      have hxl : (P.getD k st0).data.toList.length = (P.getD k st0).size := by simp
      have HXB : Hid (mkB (P.getD k st0).data.toList = P.getD k st0) := mkB_of _
      rw [hjs] at hj2
      generalize P.getD k st0 = x at *
      simp only [List.length_append] at hj2
      obtain ⟨u, hu⟩ : ∃ u : ByteArray, u = mkB (jnT Q k) := ⟨_, rfl⟩
      obtain ⟨u1, hu1⟩ : ∃ u1 : ByteArray, u1 = mkB (jnT Q k ++ (if k = 0 then [] else [10])) := ⟨_, rfl⟩
      obtain ⟨u2, hu2⟩ : ∃ u2 : ByteArray, u2 = mkB (jnT Q (k + 1)) := ⟨_, rfl⟩
      have st1 : k ≠ 0 → ∀ W, (Op.stringOp .add u ⟨#[10]⟩).run Tryd.prog W = .ok (.string u1) W := fun h W => by
        rw [hu, hu1, if_neg h]; exact run_string_add_any W (jnT Q k) [10] (by simp; omega)
      have st2 : ∀ W, (Op.stringOp .add u1 x).run Tryd.prog W = .ok (.string u2) W := fun W => by
        have := run_string_add_any (P := Tryd.prog) W (jnT Q k ++ (if k = 0 then [] else [10])) x.data.toList (by simp only [List.length_append]; omega)
        rw [hu1, hu2, hjs, ← List.append_assoc]
        exact this
      have e01 : k = 0 → u = u1 := fun h => by rw [hu, hu1, if_pos h]; simp
      rw [← hu]
      have HU2 := Lib.hid hu2
      have hx64 : x.size ≤ 2000 := by omega
      clear hat hu hu1 hu2 hjs hj1 hj2 hxl
      by_cases hk0 : k = 0
      · obtain rfl := e01 hk0
        have v1 : decide (0 < k) = false := by simp; omega
        clear e01 st1 hk0
        go_wp2_with fail
        go_loop [33] (fun i => ∃ j : Nat, j ≤ x.size ∧ i = .int .i64 j) (fun i => x.size - (intOf i).toNat)
        case atStart => exact ⟨0, Nat.zero_le _, rfl⟩
        case round =>
          obtain ⟨j, hj', rfl⟩ := hrel
          by_cases hj : j < x.size
          · have hbg := HGX.out j hj
            have hnn := HNK.out j hj
            generalize gB x.data.toList j = c at *
            have vc : (c == 10) = false := by simpa using hnn
            clear hnn
            go_wp2_with fail
            go_round
            case rel => exact ⟨j + 1, by omega, by go_num⟩
            case measure => simp [intOf]; omega
          obtain rfl : j = x.size := by omega
          go_wp2_with fail
          go_round
          case rel => exact ⟨k + 1, by omega, by go_num, by rw [HU2.out]⟩
          case measure => simp [intOf]; omega
      · have v1 : decide (0 < k) = true := by simp; omega
        have st1' := st1 hk0
        clear e01 st1 hk0
        go_wp2_with fail
        go_loop [33] (fun i => ∃ j : Nat, j ≤ x.size ∧ i = .int .i64 j) (fun i => x.size - (intOf i).toNat)
        case atStart => exact ⟨0, Nat.zero_le _, rfl⟩
        case round =>
          obtain ⟨j, hj', rfl⟩ := hrel
          by_cases hj : j < x.size
          · have hbg := HGX.out j hj
            have hnn := HNK.out j hj
            generalize gB x.data.toList j = c at *
            have vc : (c == 10) = false := by simpa using hnn
            clear hnn
            go_wp2_with fail
            go_round
            case rel => exact ⟨j + 1, by omega, by go_num⟩
            case measure => simp [intOf]; omega
          obtain rfl : j = x.size := by omega
          go_wp2_with fail
          go_round
          case rel => exact ⟨k + 1, by omega, by go_num, by rw [HU2.out]⟩
          case measure => simp [intOf]; omega
    obtain rfl : k = N := by omega
    have hlb := hlastb.out
    have d0 : decide (0 < k) = true := by simp; omega
    have d1 : decide ((0 : Int) < (k : Int)) = true := by simp; omega
    have x0 : (s.size : Int) - 1 = ((s.size - 1 : Nat) : Int) := by omega
    rcases HTF.out with ⟨t1, t2⟩ | ⟨t1, t2⟩
    · have e1 : mkB (jnT Q k) = s := by rw [HJ.out, t1]; rfl
      rw [e1]
      rw [HSL.out] at t2
      generalize gB s.data.toList (s.size - 1) = c at *
      have vc : (c != 10) = true := by simpa using t2
      clear e1 t1 t2
      go_wp2_with fail
      go_ret
      exact ⟨rfl, hB2⟩
    · have e1 : mkB (jnT Q k) ≠ s := fun e => by
        have : (mkB (jnT Q k)).data.toList = s.data.toList := by rw [e]
        rw [← t1, show (mkB (jnT Q k)).data.toList = jnT Q k from rfl, HJ.out] at this
        have := congrArg List.length this
        simp at this
      have st3 : ∀ W, (Op.stringOp .add (mkB (jnT Q k)) ⟨#[10]⟩).run Tryd.prog W = .ok (.string s) W := fun W => by
        have hb := HJB.out k (Nat.le_refl _)
        have := run_string_add_any (P := Tryd.prog) W (jnT Q k) [10] (by simp; omega)
        rw [HJ.out, t1] at this
        rw [HJ.out]
        exact this
      have ve : ((mkB (jnT Q k)).toList == s.toList) = false := by
        rw [beq_eq_false_iff_ne]
        intro e
        rw [ByteArray.toList_eq, ByteArray.toList_eq] at e
        apply e1
        rw [← mkB_of s, ← e]; rfl
      generalize mkB (jnT Q k) = u at *
      clear e1 t1 t2 hlb
      go_wp2_with fail
      go_ret
      exact ⟨rfl, hB2⟩
--%%
end Go.Proofs.YtohdmfedappenaaDoor
