/-
  Layer 7's laws WordInts and WordQuotes: their walks. Conditions as named.
-/
import Derived.Test.YtohdmfedappenaaDoorLaw07
namespace Go.Proofs.YtohdmfedappenaaDoor
set_option linter.unusedVariables false
open Go.RowKit
set_option maxRecDepth 100000 in
set_option maxHeartbeats 3200000 in
theorem wordInts_walk (s : ByteArray) (w : World) (hs : s.size ≤ 9223372036854775807) (hm : ML w) :
    Calls Tryd.prog 5 #[.string s] w fun e w' => e = .returned (.bool true) ∧ Below w.heap.size w w' := by
  have HM := Lib.hid hm
  clear hm
  by_cases h60 : 60 < s.size
  · have v : decide ((60 : Int) < (s.size : Int)) = true := by simp; omega
    go_enter Tryd.func5, Tryd.ntmps5
    go_wp2_with fail
    refine (reads_c _ HM.out).mono ?_
    rintro e w1 ⟨rfl, hb1⟩
    go_wp2_with fail
    go_ret
    exact ⟨rfl, hb1⟩
  have v : decide ((60 : Int) < (s.size : Int)) = false := by simp; omega
  have KA := Lib.hid (fun W => int_c s W (by omega) _ _ (Lib.hid rfl) (Lib.hid rfl))
  have KB := Lib.hid (fun W => rint_c s W (by omega) _ _ (Lib.hid rfl) (Lib.hid rfl))
  generalize inE s.data.toList = ie at *
  generalize inV s.data.toList = iv at *
  have v1 : (ie == ie) = true := by simp
  have v2 : (iv == iv) = true := by simp
  go_enter Tryd.func5, Tryd.ntmps5
  go_wp2_with fail
  refine (reads_c _ HM.out).mono ?_
  rintro e w1 ⟨rfl, hb1⟩
  go_wp2_with fail
  refine (KA.out _).mono ?_
  rintro e w2 ⟨rfl, hb2⟩
  go_wp2_with fail
  refine (KB.out _).mono ?_
  rintro e w3 ⟨rfl, rfl⟩
  go_wp2_with fail
  go_ret
  exact ⟨rfl, bT hb1 hb2⟩
--%%
theorem cut_quoted (l : List UInt8) (h : allB shB l = true) (hl : l.length ≤ 500) : cutR (qT l) = (0, [l]) := by
  have h1 := qT_len l
  have := cut_join [l] 0 (by simp) (fun w hw => by simp at hw; subst hw; exact h)
  rw [show joinQ [l] = qT l ++ [] from rfl, List.append_nil] at this
  unfold cutR
  rw [if_neg (by omega)]
  exact this
set_option maxRecDepth 100000 in
set_option maxHeartbeats 6400000 in
theorem wordQuotes_walk (s : ByteArray) (w : World) (hs : s.size ≤ 9223372036854775807) (hm : ML w) :
    Calls Tryd.prog 4 #[.string s] w fun e w' => e = .returned (.bool true) ∧ Below w.heap.size w w' := by
  have HM := Lib.hid hm
  clear hm
  by_cases h500 : 500 < s.size
  · have v : decide ((500 : Int) < (s.size : Int)) = true := by simp; omega
    go_enter Tryd.func4, Tryd.ntmps4
    go_wp2_with fail
    refine (reads_c _ HM.out).mono ?_
    rintro e w1 ⟨rfl, hb1⟩
    go_wp2_with fail
    go_ret
    exact ⟨rfl, hb1⟩
  have v : decide ((500 : Int) < (s.size : Int)) = false := by simp; omega
  obtain ⟨l, hl⟩ : ∃ l, l = s.data.toList := ⟨_, rfl⟩
  have hln : l.length = s.size := by rw [hl]; simp
  have HS : Hid (s = mkB l) := by rw [hl]; rfl
  have HG : Hid (∀ k (h : k < s.size), ((s[k]).toNat : Int) = gB l k) := fun k h => by rw [hl]; exact byte_gB s k h
  have HL := Lib.hid hln
  obtain ⟨q1, hq1⟩ : ∃ q1, q1 = 34 :: l := ⟨_, rfl⟩
  obtain ⟨t, ht⟩ : ∃ t : ByteArray, t = mkB (34 :: (l ++ [34])) := ⟨_, rfl⟩
  have st1 : ∀ W, (Op.stringOp .add ⟨#[34]⟩ s).run Tryd.prog W = .ok (.string ⟨q1.toArray⟩) W := fun W => by
    rw [hq1, hl]; exact run_string_add_any W [34] s.data.toList (by simp; omega)
  have st2 : ∀ W, (Op.stringOp .add ⟨q1.toArray⟩ ⟨#[34]⟩).run Tryd.prog W = .ok (.string t) W := fun W => by
    rw [hq1, ht]; exact run_string_add_any W (34 :: l) [34] (by simp; omega)
  have HST := Lib.hid (And.intro st1 st2)
  have HT := Lib.hid ht
  have hTs : t.size ≤ 1000 := by rw [ht]; show (34 :: (l ++ [34])).toArray.size ≤ _; simp; omega
  have KQ0 : Hid (allB shB l = false → ∀ W, Calls Tryd.prog 13 #[.string s] W fun e w' => e = .returned (.tuple #[.string ⟨#[]⟩, .int .i64 5]) ∧ W = w') := fun h W => by
    have := quote_c s W (by omega) [] 5 (Lib.hid (by rw [← hl]; unfold qT; simp [h])) (Lib.hid (by rw [← hl]; unfold qE; simp [h]))
    exact this
  have KQ1 : Hid (allB shB l = true → bareB l = true → ∀ W, Calls Tryd.prog 13 #[.string s] W fun e w' => e = .returned (.tuple #[.string s, .int .i64 0]) ∧ W = w') := fun h hb W => by
    have := quote_c s W (by omega) l 0 (Lib.hid (by rw [← hl]; exact (qT_bare hb).2.symm)) (Lib.hid (by rw [← hl]; exact (qT_bare hb).1.symm))
    rw [HS.out]; rw [HS.out] at this; exact this
  have KQ2 : Hid (allB shB l = true → bareB l = false → ∀ W, Calls Tryd.prog 13 #[.string s] W fun e w' => e = .returned (.tuple #[.string t, .int .i64 0]) ∧ W = w') := fun h hb W => by
    have := quote_c s W (by omega) (34 :: (l ++ [34])) 0 (Lib.hid (by rw [← hl]; exact (qT_quoted h hb).2.symm)) (Lib.hid (by rw [← hl]; exact (qT_quoted h hb).1.symm))
    rw [ht]; exact this
  have KC1 : Hid (allB shB l = true → bareB l = true → ∀ W, Calls Tryd.prog 12 #[.string s] W (CutQ (0, [l]) W)) := fun h hb W => cut_c s W (by omega) (0, [l]) (Lib.hid (by rw [← hl, ← cut_quoted l h (by omega), (qT_bare hb).2]))
  have KC2 : Hid (allB shB l = true → bareB l = false → ∀ W, Calls Tryd.prog 12 #[.string t] W (CutQ (0, [l]) W)) := fun h hb W => cut_c t W (by omega) (0, [l]) (Lib.hid (by rw [← cut_quoted l h (by omega), (qT_quoted h hb).2, ht]; rfl))
  clear hq1 ht hl st1 st2
  cases hsh : allB shB l
  · have KQ := Lib.hid (KQ0.out hsh)
    have h0 : s.size ≠ 0 := fun e => by
      have : l = [] := List.length_eq_zero_iff.1 (by rw [HL.out]; exact e)
      rw [this] at hsh; cases hsh
    obtain ⟨f1, f2⟩ := str_facts s h0
    have HSH := Lib.hid hsh
    clear hsh hln KQ0 KQ1 KQ2 KC1 KC2 HST
    go_enter Tryd.func4, Tryd.ntmps4
    go_wp2_with fail
    refine (reads_c _ HM.out).mono ?_
    rintro e w1 ⟨rfl, hb1⟩
    go_wp2_with fail
    refine (KQ.out _).mono ?_
    rintro e w2 ⟨rfl, rfl⟩
    go_wp2_with fail
    go_loop [5, 23] (fun b i => ∃ k : Nat, k ≤ s.size ∧ i = .int .i64 k ∧ b = .bool (allB plB (l.take k)) ∧ Hid (allB shB (l.take k) = true)) (fun _ i => s.size - (intOf i).toNat)
    case atStart => exact ⟨0, Nat.zero_le _, rfl, rfl, rfl⟩
    case round =>
      obtain ⟨k, hk', rfl, rfl, HA⟩ := hrel
      by_cases hk : k < s.size
      case neg =>
        obtain rfl : k = s.size := by omega
        have ht : l.take s.size = l := by rw [← HL.out]; exact List.take_length
        exact absurd HA.out (by rw [ht, HSH.out]; decide)
      have hbg := HG.out k hk
      have hkl : k < l.length := by rw [HL.out]; exact hk
      have HSP := Lib.hid (allB_succ plB l k hkl)
      have HSS := Lib.hid (allB_succ shB l k hkl)
      have HNO : Hid (shB (gB l k) = false → allB shB l = false) := fun h => allB_no hkl h
      have KS := Lib.hid (rshown_c (gB l k))
      have KP := Lib.hid (rplain_c (gB l k))
      generalize gB l k = c at *
      cases hc : shB c
      · rw [hc] at KS
        go_wp2_with fail
        refine (KS.out _).mono ?_
        rintro e w2 ⟨rfl, rfl⟩
        go_wp2_with fail
        go_ret
        exact ⟨rfl, hb1⟩
      rw [hc] at KS HSS
      have HA2 : Hid (allB shB (l.take (k + 1)) = true) := by unfold Hid; rw [HSS.out, HA.out]; rfl
      generalize allB plB (l.take k) = b at *
      clear hc HSS HA hkl HNO
      cases b
      · have HP2 : Hid (allB plB (l.take (k + 1)) = false) := HSP.out
        go_wp2_with fail
        refine (KS.out _).mono ?_
        rintro e w2 ⟨rfl, rfl⟩
        go_wp2_with fail
        go_round
        case rel => exact ⟨k + 1, by omega, by go_num, by rw [HP2.out], HA2.out⟩
        case measure => simp [intOf]; omega
      · have HP2 : Hid (allB plB (l.take (k + 1)) = plB c) := HSP.out
        generalize plB c = pb at *
        go_wp2_with fail
        refine (KS.out _).mono ?_
        rintro e w2 ⟨rfl, rfl⟩
        go_wp2_with fail
        refine (KP.out _).mono ?_
        rintro e w2 ⟨rfl, rfl⟩
        go_wp2_with fail
        go_round
        case rel => exact ⟨k + 1, by omega, by go_num, by rw [HP2.out], HA2.out⟩
        case measure => simp [intOf]; omega
  have HSH := Lib.hid hsh
  cases hba : bareB l
  · have KQ := Lib.hid (KQ2.out hsh hba)
    have KC := Lib.hid (KC2.out hsh hba)
    have HBA := Lib.hid hba
    clear hsh KQ0 KQ1 KQ2 KC1 KC2 hba
    have vt : (t.toList != t.toList) = false := by simp
    by_cases h0 : s.size = 0
    · obtain ⟨f1, f2⟩ := str_none s h0
      have vs : (s.size : Int) = 0 := by omega
      clear hln
      go_enter Tryd.func4, Tryd.ntmps4
      go_wp2_with fail
      refine (reads_c _ HM.out).mono ?_
      rintro e w1 ⟨rfl, hb1⟩
      go_wp2_with fail
      refine (KQ.out _).mono ?_
      rintro e w2 ⟨rfl, rfl⟩
      go_wp2_with fail
      go_loop [5, 23] (fun b i => i = .int .i64 0 ∧ b = .bool false) (fun _ i => 0)
      case atStart => exact ⟨rfl, rfl⟩
      case round =>
        obtain ⟨rfl, rfl⟩ := hrel
        obtain ⟨st1, st2⟩ := HST.out
        go_wp2_with fail
        (refine (KC.out _).mono ?_); (rintro e w4 ⟨⟨_, v, rfl, ho⟩ | ⟨hc, _⟩, hb4⟩); (case inr => exact absurd rfl hc); obtain ⟨A, c, rfl, hs4⟩ := OwnSt.sl ho; obtain ⟨b, off, rfl, hlt, hat⟩ := hs4.2.2 (by simp); have d0 : w4.cell? ⟨b, off, none⟩ = some (.string s) := (hat 0 (by simp) 0 _ rfl).trans (by rw [HS.out]; rfl); clear hat hs4 ho
        go_wp2_with fail
        go_ret
        exact ⟨rfl, bT hb1 hb4⟩
    obtain ⟨f1, f2⟩ := str_facts s h0
    clear hln
    go_enter Tryd.func4, Tryd.ntmps4
    go_wp2_with fail
    refine (reads_c _ HM.out).mono ?_
    rintro e w1 ⟨rfl, hb1⟩
    go_wp2_with fail
    refine (KQ.out _).mono ?_
    rintro e w2 ⟨rfl, rfl⟩
    go_wp2_with fail
    go_loop [5, 23] (fun b i => ∃ k : Nat, k ≤ s.size ∧ i = .int .i64 k ∧ b = .bool (allB plB (l.take k)) ∧ Hid (allB shB (l.take k) = true)) (fun _ i => s.size - (intOf i).toNat)
    case atStart => exact ⟨0, Nat.zero_le _, rfl, rfl, rfl⟩
    case round =>
      obtain ⟨k, hk', rfl, rfl, HA⟩ := hrel
      by_cases hk : k < s.size
      case neg =>
        obtain rfl : k = s.size := by omega
        have ht : l.take s.size = l := by rw [← HL.out]; exact List.take_length
        have hpl : allB plB l = false := by
          have := HBA.out; unfold bareB at this
          have hne : l ≠ [] := fun e => h0 (by rw [← HL.out, e]; rfl)
          simpa [hne] using this
        rw [ht, hpl]
        obtain ⟨st1, st2⟩ := HST.out
        clear ht hpl
        go_wp2_with fail
        (refine (KC.out _).mono ?_); (rintro e w4 ⟨⟨_, v, rfl, ho⟩ | ⟨hc, _⟩, hb4⟩); (case inr => exact absurd rfl hc); obtain ⟨A, c, rfl, hs4⟩ := OwnSt.sl ho; obtain ⟨b, off, rfl, hlt, hat⟩ := hs4.2.2 (by simp); have d0 : w4.cell? ⟨b, off, none⟩ = some (.string s) := (hat 0 (by simp) 0 _ rfl).trans (by rw [HS.out]; rfl); clear hat hs4 ho
        go_wp2_with fail
        go_ret
        exact ⟨rfl, bT hb1 hb4⟩
      have hbg := HG.out k hk
      have hkl : k < l.length := by rw [HL.out]; exact hk
      have HSP := Lib.hid (allB_succ plB l k hkl)
      have HSS := Lib.hid (allB_succ shB l k hkl)
      have HNO : Hid (shB (gB l k) = false → allB shB l = false) := fun h => allB_no hkl h
      have KS := Lib.hid (rshown_c (gB l k))
      have KP := Lib.hid (rplain_c (gB l k))
      generalize gB l k = c at *
      cases hc : shB c
      · rw [hc] at KS
        exact absurd (HNO.out hc) (by rw [HSH.out]; decide)
      rw [hc] at KS HSS
      have HA2 : Hid (allB shB (l.take (k + 1)) = true) := by unfold Hid; rw [HSS.out, HA.out]; rfl
      generalize allB plB (l.take k) = b at *
      clear hc HSS HA hkl HNO
      cases b
      · have HP2 : Hid (allB plB (l.take (k + 1)) = false) := HSP.out
        go_wp2_with fail
        refine (KS.out _).mono ?_
        rintro e w2 ⟨rfl, rfl⟩
        go_wp2_with fail
        go_round
        case rel => exact ⟨k + 1, by omega, by go_num, by rw [HP2.out], HA2.out⟩
        case measure => simp [intOf]; omega
      · have HP2 : Hid (allB plB (l.take (k + 1)) = plB c) := HSP.out
        generalize plB c = pb at *
        go_wp2_with fail
        refine (KS.out _).mono ?_
        rintro e w2 ⟨rfl, rfl⟩
        go_wp2_with fail
        refine (KP.out _).mono ?_
        rintro e w2 ⟨rfl, rfl⟩
        go_wp2_with fail
        go_round
        case rel => exact ⟨k + 1, by omega, by go_num, by rw [HP2.out], HA2.out⟩
        case measure => simp [intOf]; omega

  · have KQ := Lib.hid (KQ1.out hsh hba)
    have KC := Lib.hid (KC1.out hsh hba)
    have HBA := Lib.hid hba
    have h0 : s.size ≠ 0 := fun e => by
      have : l = [] := List.length_eq_zero_iff.1 (by rw [HL.out]; exact e)
      rw [this] at hba; cases hba
    obtain ⟨f1, f2⟩ := str_facts s h0
    have vt : (s.toList != s.toList) = false := by simp
    clear hsh hln KQ0 KQ1 KQ2 KC1 KC2 hba HST
    go_enter Tryd.func4, Tryd.ntmps4
    go_wp2_with fail
    refine (reads_c _ HM.out).mono ?_
    rintro e w1 ⟨rfl, hb1⟩
    go_wp2_with fail
    refine (KQ.out _).mono ?_
    rintro e w2 ⟨rfl, rfl⟩
    go_wp2_with fail
    go_loop [5, 23] (fun b i => ∃ k : Nat, k ≤ s.size ∧ i = .int .i64 k ∧ b = .bool (allB plB (l.take k)) ∧ Hid (allB shB (l.take k) = true)) (fun _ i => s.size - (intOf i).toNat)
    case atStart => exact ⟨0, Nat.zero_le _, rfl, rfl, rfl⟩
    case round =>
      obtain ⟨k, hk', rfl, rfl, HA⟩ := hrel
      by_cases hk : k < s.size
      case neg =>
        obtain rfl : k = s.size := by omega
        have ht : l.take s.size = l := by rw [← HL.out]; exact List.take_length
        have hpl : allB plB l = true := by
          have := HBA.out; unfold bareB at this
          simp only [Bool.and_eq_true] at this
          exact this.2
        rw [ht, hpl]
        clear ht hpl
        go_wp2_with fail
        (refine (KC.out _).mono ?_); (rintro e w4 ⟨⟨_, v, rfl, ho⟩ | ⟨hc, _⟩, hb4⟩); (case inr => exact absurd rfl hc); obtain ⟨A, c, rfl, hs4⟩ := OwnSt.sl ho; obtain ⟨b, off, rfl, hlt, hat⟩ := hs4.2.2 (by simp); have d0 : w4.cell? ⟨b, off, none⟩ = some (.string s) := (hat 0 (by simp) 0 _ rfl).trans (by rw [HS.out]; rfl); clear hat hs4 ho
        go_wp2_with fail
        go_ret
        exact ⟨rfl, bT hb1 hb4⟩
      have hbg := HG.out k hk
      have hkl : k < l.length := by rw [HL.out]; exact hk
      have HSP := Lib.hid (allB_succ plB l k hkl)
      have HSS := Lib.hid (allB_succ shB l k hkl)
      have HNO : Hid (shB (gB l k) = false → allB shB l = false) := fun h => allB_no hkl h
      have KS := Lib.hid (rshown_c (gB l k))
      have KP := Lib.hid (rplain_c (gB l k))
      generalize gB l k = c at *
      cases hc : shB c
      · rw [hc] at KS
        exact absurd (HNO.out hc) (by rw [HSH.out]; decide)
      rw [hc] at KS HSS
      have HA2 : Hid (allB shB (l.take (k + 1)) = true) := by unfold Hid; rw [HSS.out, HA.out]; rfl
      generalize allB plB (l.take k) = b at *
      clear hc HSS HA hkl HNO
      cases b
      · have HP2 : Hid (allB plB (l.take (k + 1)) = false) := HSP.out
        go_wp2_with fail
        refine (KS.out _).mono ?_
        rintro e w2 ⟨rfl, rfl⟩
        go_wp2_with fail
        go_round
        case rel => exact ⟨k + 1, by omega, by go_num, by rw [HP2.out], HA2.out⟩
        case measure => simp [intOf]; omega
      · have HP2 : Hid (allB plB (l.take (k + 1)) = plB c) := HSP.out
        generalize plB c = pb at *
        go_wp2_with fail
        refine (KS.out _).mono ?_
        rintro e w2 ⟨rfl, rfl⟩
        go_wp2_with fail
        refine (KP.out _).mono ?_
        rintro e w2 ⟨rfl, rfl⟩
        go_wp2_with fail
        go_round
        case rel => exact ⟨k + 1, by omega, by go_num, by rw [HP2.out], HA2.out⟩
        case measure => simp [intOf]; omega

--%%
end Go.Proofs.YtohdmfedappenaaDoor
