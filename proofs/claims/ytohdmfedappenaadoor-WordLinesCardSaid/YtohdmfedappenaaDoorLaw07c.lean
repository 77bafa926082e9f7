/-
  Layer 7's law WordNames: its walk. Conditions as named.
-/
import Derived.Test.YtohdmfedappenaaDoorLaw07
import Derived.Lib.Index
namespace Go.Proofs.YtohdmfedappenaaDoor
set_option linter.unusedVariables false
open Go.RowKit
/-- where the first sign stands among the first k bytes -/
def sgT (l : List UInt8) : Nat → Int
  | 0 => -1
  | k + 1 => if sgT l k < 0 ∧ gB l k = 61 then (k : Int) else sgT l k
theorem sgT_at (l : List UInt8) : ∀ k, (sgT l k = -1 ∧ ∀ j, j < k → gB l j ≠ 61) ∨ ∃ q : Nat, q < k ∧ sgT l k = q ∧ gB l q = 61 ∧ ∀ j, j < q → gB l j ≠ 61 := by
  intro k
  induction k with
  | zero => exact Or.inl ⟨rfl, fun j hj => absurd hj (by omega)⟩
  | succ k ih =>
    rcases ih with ⟨h1, h2⟩ | ⟨q, hq, h1, h2, h3⟩
    · by_cases h : gB l k = 61
      · refine Or.inr ⟨k, by omega, ?_, h, h2⟩
        rw [sgT, if_pos ⟨by omega, h⟩]
      · refine Or.inl ⟨?_, fun j hj => ?_⟩
        · rw [sgT, if_neg (fun hh => h hh.2), h1]
        · rcases (by omega : j = k ∨ j < k) with rfl | hj
          · exact h
          · exact h2 j hj
    · exact Or.inr ⟨q, by omega, by rw [sgT, if_neg (by omega), h1], h2, h3⟩
theorem occ_gB (l : List UInt8) (i : Nat) (h : i < l.length) : Lib.occAt l [61] i = decide (gB l i = 61) := by
  unfold Lib.occAt
  rw [List.drop_eq_getElem_cons h]
  have e : gB l i = (l[i].toNat : Int) := by unfold gB; simp [List.getD, List.getElem?_eq_getElem h]
  rw [e, Bool.eq_iff_iff]
  simp [List.isPrefixOf]
  constructor
  · intro h; rw [← h]; rfl
  · intro h; exact UInt8.toNat_inj.1 (by show (61 : UInt8).toNat = _; simp; omega)
theorem sgT_index (l : List UInt8) : Lib.index l [61] = sgT l l.length := by
  rcases sgT_at l l.length with ⟨h1, h2⟩ | ⟨q, hq, h1, h2, h3⟩
  · rw [h1]
    refine Lib.index_none fun j hj => ?_
    rcases (by omega : j = l.length ∨ j < l.length) with rfl | hj
    · unfold Lib.occAt; rw [List.drop_length]; rfl
    · rw [occ_gB l j hj]; simpa using h2 j hj
  · rw [h1]
    refine Lib.index_first (by omega) (by rw [occ_gB l q hq]; simpa using h2) fun j hj => ?_
    rw [occ_gB l j (by omega)]; simpa using h3 j hj
theorem op_no (l : List UInt8) (h : sgT l l.length < 1) : opK l = false ∧ opA l = [] ∧ opB l = [] := by
  have hk : opK l = false := by
    unfold opK Lib.cut
    rw [sgT_index]
    rcases sgT_at l l.length with ⟨h1, h2⟩ | ⟨q, hq, h1, h2, h3⟩
    · rw [h1]; rfl
    · rw [h1] at h ⊢
      obtain rfl : q = 0 := by omega
      simp
  unfold opA opB
  rw [hk]
  exact ⟨rfl, rfl, rfl⟩
theorem op_yes (l : List UInt8) (q : Nat) (hl : q < l.length) (h1 : sgT l l.length = q) (hq : 1 ≤ q) : opK l = true ∧ opA l = l.take q ∧ opB l = l.drop (q + 1) := by
  have hc : Lib.cut l [61] = (l.take q, l.drop (q + 1), true) := by
    unfold Lib.cut
    rw [sgT_index, h1, if_pos (by omega)]
    rfl
  have hk : opK l = true := by
    unfold opK
    rw [hc]
    simp
    refine ⟨by omega, ?_⟩
    rintro rfl; simp at hl
  unfold opA opB
  rw [hk, hc]
  exact ⟨rfl, rfl, rfl⟩
--%%
set_option maxRecDepth 100000 in
set_option maxHeartbeats 12800000 in
theorem wordNames_walk (s : ByteArray) (w : World) (hs : s.size ≤ 9223372036854775807) (hm : ML w) :
    Calls Tryd.prog 6 #[.string s] w fun e w' => e = .returned (.bool true) ∧ Below w.heap.size w w' := by
  have HM := Lib.hid hm
  clear hm
  by_cases h100 : 100 < s.size
  · have v : decide ((100 : Int) < (s.size : Int)) = true := by simp; omega
    go_enter Tryd.func6, Tryd.ntmps6
    go_wp2_with fail
    refine (reads_c _ HM.out).mono ?_
    rintro e w1 ⟨rfl, hb1⟩
    go_wp2_with fail
    go_ret
    exact ⟨rfl, hb1⟩
  have v : decide ((100 : Int) < (s.size : Int)) = false := by simp; omega
  obtain ⟨l, hl⟩ : ∃ l, l = s.data.toList := ⟨_, rfl⟩
  have hln : l.length = s.size := by rw [hl]; simp
  have HG : Hid (∀ k (h : k < s.size), ((s[k]).toNat : Int) = gB l k) := fun k h => by rw [hl]; exact byte_gB s k h
  have HL := Lib.hid hln
  have KO0 : Hid (sgT l s.size < 1 → ∀ W, ML W → Calls Tryd.prog 16 #[.string s] W fun e w' => e = .returned (.tuple #[.string ⟨#[]⟩, .string ⟨#[]⟩, .bool false]) ∧ Below W.heap.size W w') := fun h W hW => by
    rw [← hln] at h
    obtain ⟨e1, e2, e3⟩ := op_no l h
    rw [hl] at e1 e2 e3
    exact option_c s W (by omega) hW [] [] false (Lib.hid e2.symm) (Lib.hid e3.symm) (Lib.hid e1.symm)
  have KO1 : Hid (∀ q : Nat, q < s.size → sgT l s.size = q → 1 ≤ q → ∀ W, ML W → Calls Tryd.prog 16 #[.string s] W fun e w' => e = .returned (.tuple #[.string (s.extract 0 q), .string (s.extract (q + 1) s.size), .bool true]) ∧ Below W.heap.size W w') := fun q hq h h1 W hW => by
    obtain ⟨e1, e2, e3⟩ := op_yes l q (by omega) (by rw [hln]; exact h) h1
    rw [hl] at e1 e2 e3
    have := option_c s W (by omega) hW _ _ true (Lib.hid rfl) (Lib.hid rfl) (Lib.hid e1.symm)
    rw [e2, e3] at this
    have x1 : (⟨(s.data.toList.take q).toArray⟩ : ByteArray) = s.extract 0 q := by
      have := mkB_ext s 0 q
      rw [this]; unfold mkB; simp
    have x2 : (⟨(s.data.toList.drop (q + 1)).toArray⟩ : ByteArray) = s.extract (q + 1) s.size := by
      have h5 := Lib.extract_to_end s (q + 1)
      rw [← h5]
    rw [x1, x2] at this
    exact this
  have KN := Lib.hid (fun W => name_c s W hs _ (Lib.hid rfl))
  have HNB : Hid (nameB s.data.toList = (decide (1 ≤ s.size ∧ s.size ≤ 16) && nmTo l s.size)) := by
    unfold Hid nameB; rw [← hl, hln]
  have HSG := Lib.hid (sgT_at l s.size)
  generalize nameB s.data.toList = nb at *
  clear hln hl
  by_cases h0 : s.size = 0
  · obtain ⟨f1, f2⟩ := str_none s h0
    have e1 : nb = false := by rw [HNB.out]; simp [h0]
    have KO := Lib.hid (KO0.out (by rw [h0]; show (-1 : Int) < 1; decide))
    have vs : (s.size : Int) = 0 := by omega
    subst e1
    clear KO0 KO1 HNB HSG
    go_enter Tryd.func6, Tryd.ntmps6
    go_wp2_with fail
    refine (reads_c _ HM.out).mono ?_
    rintro e w1 ⟨rfl, hb1⟩
    go_wp2_with fail
    go_loop [3, 4, 24] (fun a b i => a = .bool false ∧ b = .int .i64 (-1) ∧ i = .int .i64 0) (fun _ _ _ => 0)
    case atStart => exact ⟨rfl, rfl, rfl⟩
    case round =>
      obtain ⟨rfl, rfl, rfl⟩ := hrel
      go_wp2_with fail
      refine (KO.out _ (HM.out.t hb1)).mono ?_
      rintro e w2 ⟨rfl, hb2⟩
      go_wp2_with fail
      refine (KN.out _).mono ?_
      rintro e w3 ⟨rfl, rfl⟩
      go_wp2_with fail
      go_ret
      exact ⟨rfl, bT hb1 hb2⟩
  obtain ⟨f1, f2⟩ := str_facts s h0
  obtain ⟨b16, h16⟩ : ∃ b, decide ((s.size : Int) ≤ 16) = b := ⟨_, rfl⟩
  have HNB2 : Hid (nb = (b16 && nmTo l s.size)) := by
    unfold Hid; rw [HNB.out, ← h16]
    congr 1
    rw [Bool.eq_iff_iff]; simp; omega
  have HN0 : Hid ((b16 && nmTo l 0) = b16) := by unfold Hid nmTo; simp
  clear HNB h0
  go_enter Tryd.func6, Tryd.ntmps6
  go_wp2_with fail
  refine (reads_c _ HM.out).mono ?_
  rintro e w1 ⟨rfl, hb1⟩
  obtain ⟨bb, hbb⟩ : ∃ bb : Bool, bb = b16 := ⟨_, rfl⟩
  rw [← hbb] at HNB2 HN0
  have HBB := Lib.hid hbb
  cases b16
  all_goals
    clear hbb
    go_wp2_with fail
    go_loop [3, 4, 24] (fun a b i => ∃ k : Nat, k ≤ s.size ∧ i = .int .i64 k ∧ a = .bool (bb && nmTo l k) ∧ b = .int .i64 (sgT l k)) (fun _ _ i => s.size - (intOf i).toNat)
    case atStart => exact ⟨0, Nat.zero_le _, rfl, by rw [HN0.out, HBB.out], rfl⟩
    case round =>
      obtain ⟨k, hk', rfl, rfl, rfl⟩ := hrel
      by_cases hk : k < s.size
      · have hbg := HG.out k hk
        have HSS : Hid (sgT l (k + 1) = if sgT l k < 0 ∧ gB l k = 61 then (k : Int) else sgT l k) := rfl
        have HNN : Hid ((bb && nmTo l (k + 1)) = ((bb && nmTo l k) && nmI (gB l k) k)) := by
          unfold Hid
          have : nmTo l (k + 1) = (nmTo l k && nmI (gB l k) k) := by
            unfold nmTo; rw [List.range_succ, List.all_append]; simp
          rw [this, Bool.and_assoc]
        have hbd := gB_bd l k
        generalize gB l k = c at *
        generalize (bb && nmTo l k) = nk at *
        generalize sgT l k = sk at *
        obtain ⟨bd0, bd1⟩ := hbd
        by_cases c61 : c = 61
        · have HN2 : Hid ((bb && nmTo l (k + 1)) = false) := by
            unfold Hid
            rw [HNN.out, c61]
            unfold nmI
            simp
          have v61 : (c == 61) = true := by simp [c61]
          have u1 : decide (97 ≤ c) = false := by simp; omega
          have u2 : decide (48 ≤ c) = true := by simp; omega
          have u3 : decide (c ≤ 57) = false := by simp; omega
          have u4 : (c == 45) = false := by simp; omega
          by_cases hsk : sk < 0
          · have HS2 : Hid (sgT l (k + 1) = (k : Int)) := HSS.out.trans (if_pos ⟨hsk, c61⟩)
            have vs : decide (sk < 0) = true := by simpa using hsk
            clear HSS HNN hsk c61
            obtain ⟨w0b, hw0⟩ : ∃ b, decide (0 < k) = b := ⟨_, rfl⟩
            cases nk <;> cases w0b
            all_goals
              go_wp2_with fail; go_round; (case rel => exact ⟨k + 1, by omega, by go_num, by rw [HN2.out], by rw [HS2.out]⟩); (case measure => simp [intOf]; omega)
          · have HS2 : Hid (sgT l (k + 1) = sk) := HSS.out.trans (if_neg (fun h => hsk h.1))
            have vs : decide (sk < 0) = false := by simpa using hsk
            clear HSS HNN hsk c61
            obtain ⟨w0b, hw0⟩ : ∃ b, decide (0 < k) = b := ⟨_, rfl⟩
            cases nk <;> cases w0b
            all_goals
              go_wp2_with fail; go_round; (case rel => exact ⟨k + 1, by omega, by go_num, by rw [HN2.out], by rw [HS2.out]⟩); (case measure => simp [intOf]; omega)
        have v61 : (c == 61) = false := by simpa using c61
        have HS2 : Hid (sgT l (k + 1) = sk) := HSS.out.trans (if_neg (fun h => c61 h.2))
        clear HSS c61
        cases nk
        · have HN2 : Hid ((bb && nmTo l (k + 1)) = false) := HNN.out
          clear HNN
          go_wp2_with fail; go_round; (case rel => exact ⟨k + 1, by omega, by go_num, by rw [HN2.out], by rw [HS2.out]⟩); (case measure => simp [intOf]; omega)
        by_cases a1 : 97 ≤ c ∧ c ≤ 122
        · have HN2 : Hid ((bb && nmTo l (k + 1)) = true) := by unfold Hid; rw [HNN.out]; unfold nmI; simp [a1]
          obtain ⟨a2, a3⟩ := a1
          clear HNN
          go_wp2_with fail; go_round; (case rel => exact ⟨k + 1, by omega, by go_num, by rw [HN2.out], by rw [HS2.out]⟩); (case measure => simp [intOf]; omega)
        obtain ⟨w1', hw1⟩ : ∃ b, decide (97 ≤ c) = b := ⟨_, rfl⟩
        obtain ⟨w2', hw2⟩ : ∃ b, decide (c ≤ 122) = b := ⟨_, rfl⟩
        have hw12 : (w1' && w2') = false := by rw [← hw1, ← hw2]; simp; omega
        by_cases hk0 : k = 0
        · have HN2 : Hid ((bb && nmTo l (k + 1)) = false) := by unfold Hid; rw [HNN.out]; unfold nmI; simp [hk0]; omega
          have w0 : decide (0 < k) = false := by simp; omega
          clear HNN a1 hk0
          cases w1' <;> cases w2' <;> first | (exact absurd hw12 (by decide)) | (clear hw12; go_wp2_with fail; go_round; (case rel => exact ⟨k + 1, by omega, by go_num, by rw [HN2.out], by rw [HS2.out]⟩); (case measure => simp [intOf]; omega))
        have w0 : decide (0 < k) = true := by simp; omega
        by_cases a4 : 48 ≤ c ∧ c ≤ 57
        · have HN2 : Hid ((bb && nmTo l (k + 1)) = true) := by unfold Hid; rw [HNN.out]; unfold nmI; simp [a4, hk0]
          have u2 : decide (48 ≤ c) = true := by simp; omega
          have u3 : decide (c ≤ 57) = true := by simp; omega
          clear HNN a1 hk0 a4
          cases w1' <;> cases w2' <;> first | (exact absurd hw12 (by decide)) | (clear hw12; go_wp2_with fail; go_round; (case rel => exact ⟨k + 1, by omega, by go_num, by rw [HN2.out], by rw [HS2.out]⟩); (case measure => simp [intOf]; omega))
        obtain ⟨w3', hw3⟩ : ∃ b, decide (48 ≤ c) = b := ⟨_, rfl⟩
        obtain ⟨w4', hw4⟩ : ∃ b, decide (c ≤ 57) = b := ⟨_, rfl⟩
        have hw34 : (w3' && w4') = false := by rw [← hw3, ← hw4]; simp; omega
        by_cases a5 : c = 45
        · have HN2 : Hid ((bb && nmTo l (k + 1)) = true) := by unfold Hid; rw [HNN.out]; unfold nmI; simp [a5, hk0]
          have u4 : (c == 45) = true := by simp [a5]
          clear HNN a1 hk0 a4 a5
          cases w1' <;> cases w2' <;> cases w3' <;> cases w4' <;> first | (exact absurd hw12 (by decide)) | (exact absurd hw34 (by decide)) | (clear hw12 hw34; go_wp2_with fail; go_round; (case rel => exact ⟨k + 1, by omega, by go_num, by rw [HN2.out], by rw [HS2.out]⟩); (case measure => simp [intOf]; omega))
        · have HN2 : Hid ((bb && nmTo l (k + 1)) = false) := by unfold Hid; rw [HNN.out]; unfold nmI; simp [a5, hk0]; omega
          have u4 : (c == 45) = false := by simpa using a5
          clear HNN a1 hk0 a4 a5
          cases w1' <;> cases w2' <;> cases w3' <;> cases w4' <;> first | (exact absurd hw12 (by decide)) | (exact absurd hw34 (by decide)) | (clear hw12 hw34; go_wp2_with fail; go_round; (case rel => exact ⟨k + 1, by omega, by go_num, by rw [HN2.out], by rw [HS2.out]⟩); (case measure => simp [intOf]; omega))
      obtain rfl : k = s.size := by omega
      rw [← HNB2.out]
      have vnb : (nb == nb) = true := by simp
      rcases HSG.out with ⟨h1, _⟩ | ⟨q, hq, h1, _, _⟩
      · have KO := Lib.hid (KO0.out (by rw [h1]; decide))
        rw [h1]
        clear h1 KO0 KO1
        go_wp2_with fail
        refine (KO.out _ (HM.out.t hb1)).mono ?_
        rintro e w2 ⟨rfl, hb2⟩
        go_wp2_with fail
        refine (KN.out _).mono ?_
        rintro e w3 ⟨rfl, rfl⟩
        go_wp2_with fail
        go_ret
        exact ⟨rfl, bT hb1 hb2⟩
      · by_cases hq0 : q = 0
        · have KO := Lib.hid (KO0.out (by rw [h1, hq0]; decide))
          rw [h1, hq0]
          clear h1 KO0 KO1
          go_wp2_with fail
          refine (KO.out _ (HM.out.t hb1)).mono ?_
          rintro e w2 ⟨rfl, hb2⟩
          go_wp2_with fail
          refine (KN.out _).mono ?_
          rintro e w3 ⟨rfl, rfl⟩
          go_wp2_with fail
          go_ret
          exact ⟨rfl, bT hb1 hb2⟩
        · have KO := Lib.hid (KO1.out q hq h1 (by omega))
          rw [h1]
          have q0 : (0 : Int) ≤ (q : Int) := by omega
          have q1 : (q : Int) ≤ (s.size : Int) := by omega
          have q2 : ((q : Int)).toNat = q := by omega
          have q3 : (q : Int) + 1 ≤ (s.size : Int) := by omega
          have q4 : ((q : Int) + 1).toNat = q + 1 := by omega
          have q5 : decide ((q : Int) < 1) = false := by simp; omega
          have q6 : decide (q < 1) = false := by simp; omega
          clear h1 KO0 KO1 hq0
          go_wp2_with fail
          refine (KO.out _ (HM.out.t hb1)).mono ?_
          rintro e w2 ⟨rfl, hb2⟩
          go_wp2_with fail
          refine (KN.out _).mono ?_
          rintro e w3 ⟨rfl, rfl⟩
          go_wp2_with fail
          go_ret
          exact ⟨rfl, bT hb1 hb2⟩
--%%
end Go.Proofs.YtohdmfedappenaaDoor
