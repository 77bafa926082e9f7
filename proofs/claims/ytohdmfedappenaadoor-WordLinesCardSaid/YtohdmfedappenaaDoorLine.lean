/-
  Contracts of word.plain, shown, Quote, and of the document's Plain and Shown. Conditions as named.
-/
import Derived.Test.YtohdmfedappenaaDoorCutP
import Derived.Test.YtohdmfedappenaaDoorStr
import Derived.Test.YtohdmfedappenaaDoorParse
import Derived.Laws.Concat
namespace Go.Proofs.YtohdmfedappenaaDoor
set_option linter.unusedVariables false
open Go.RowKit
theorem plain_c (c : Int) (w : World) : Calls Tryd.prog 23 #[.int .u8 c] w fun e w' => e = .returned (.bool (plB c)) ∧ w = w' := by
  obtain ⟨b1, hb1⟩ : ∃ b, decide (32 < c) = b := ⟨_, rfl⟩
  obtain ⟨b2, hb2⟩ : ∃ b, decide (c < 127) = b := ⟨_, rfl⟩
  obtain ⟨b3, hb3⟩ : ∃ b, (c != 34) = b := ⟨_, rfl⟩
  obtain ⟨b4, hb4⟩ : ∃ b, (c != 35) = b := ⟨_, rfl⟩
  have e : plB c = (b1 && (b2 && (b3 && b4))) := by
    subst hb1; subst hb2; subst hb3; subst hb4
    rw [Bool.eq_iff_iff]; unfold plB; simp; omega
  rw [e]
  clear e
  cases b1 <;> cases b2 <;> cases b3 <;> cases b4
  all_goals
    go_enter Tryd.func23, Tryd.ntmps23
    go_wp2_with fail
    go_ret
    exact ⟨rfl, rfl⟩
--%%
theorem shown_c (c : Int) (w : World) : Calls Tryd.prog 24 #[.int .u8 c] w fun e w' => e = .returned (.bool (shB c)) ∧ w = w' := by
  obtain ⟨b1, hb1⟩ : ∃ b, decide (32 ≤ c) = b := ⟨_, rfl⟩
  obtain ⟨b2, hb2⟩ : ∃ b, decide (c < 127) = b := ⟨_, rfl⟩
  obtain ⟨b3, hb3⟩ : ∃ b, (c != 34) = b := ⟨_, rfl⟩
  have e : shB c = (b1 && (b2 && b3)) := by
    subst hb1; subst hb2; subst hb3
    rw [Bool.eq_iff_iff]; unfold shB; simp; omega
  rw [e]
  clear e
  cases b1 <;> cases b2 <;> cases b3
  all_goals
    go_enter Tryd.func24, Tryd.ntmps24
    go_wp2_with fail
    go_ret
    exact ⟨rfl, rfl⟩
--%%
theorem rplain_c (c : Int) (w : World) : Calls Tryd.prog 11 #[.int .u8 c] w fun e w' => e = .returned (.bool (plB c)) ∧ w = w' := by
  obtain ⟨b1, hb1⟩ : ∃ b, decide (33 ≤ c) = b := ⟨_, rfl⟩
  obtain ⟨b2, hb2⟩ : ∃ b, decide (c ≤ 126) = b := ⟨_, rfl⟩
  obtain ⟨b3, hb3⟩ : ∃ b, (c != 34) = b := ⟨_, rfl⟩
  obtain ⟨b4, hb4⟩ : ∃ b, (c != 35) = b := ⟨_, rfl⟩
  have e : plB c = (b1 && (b2 && (b3 && b4))) := by
    subst hb1; subst hb2; subst hb3; subst hb4
    rw [Bool.eq_iff_iff]; unfold plB; simp
  rw [e]
  clear e
  cases b1 <;> cases b2 <;> cases b3 <;> cases b4
  all_goals
    go_enter Tryd.func11, Tryd.ntmps11
    go_wp2_with fail
    go_ret
    exact ⟨rfl, rfl⟩
--%%
theorem rshown_c (c : Int) (w : World) : Calls Tryd.prog 10 #[.int .u8 c] w fun e w' => e = .returned (.bool (shB c)) ∧ w = w' := by
  by_cases h1 : c = 32
  · subst h1
    rw [show shB 32 = true by decide]
    go_enter Tryd.func10, Tryd.ntmps10
    go_wp2_with fail
    go_ret
    exact ⟨rfl, rfl⟩
  by_cases h2 : c = 35
  · subst h2
    rw [show shB 35 = true by decide]
    go_enter Tryd.func10, Tryd.ntmps10
    go_wp2_with fail
    go_ret
    exact ⟨rfl, rfl⟩
  have v1 : (c == 32) = false := by simpa using h1
  have v2 : (c == 35) = false := by simpa using h2
  have e : shB c = plB c := by rw [Bool.eq_iff_iff]; unfold shB plB; simp; omega
  rw [e]
  have K := Lib.hid (rplain_c c w)
  clear e h1 h2
  generalize plB c = r at *
  go_enter Tryd.func10, Tryd.ntmps10
  go_wp2_with fail
  refine K.out.mono ?_
  rintro e w1 ⟨rfl, rfl⟩
  go_wp2_with fail
  go_ret
  exact ⟨rfl, rfl⟩
--%%
theorem run_string_add_any {P : Program} (W : World) (x y : List UInt8) (h : x.length + y.length ≤ 9223372036854775807) : (Op.stringOp .add ⟨x.toArray⟩ ⟨y.toArray⟩).run P W = .ok (.string ⟨(x ++ y).toArray⟩) W := by
  rw [run_string_add_sum W _ _ (by simp [ByteArray.size]; omega), ByteArray.mk_append_mk]
theorem allB_succ (p : Int → Bool) (l : List UInt8) (k : Nat) (hk : k < l.length) : allB p (l.take (k + 1)) = (allB p (l.take k) && p (gB l k)) := by
  unfold allB
  rw [List.take_add_one, List.all_append]
  simp [List.getElem?_eq_getElem hk, gB, bI, List.getD]
theorem allB_no {p : Int → Bool} {l : List UInt8} {k : Nat} (hk : k < l.length) (h : p (gB l k) = false) : allB p l = false := by
  unfold allB
  rw [List.all_eq_false]
  refine ⟨l[k], List.getElem_mem hk, ?_⟩
  simp [gB, List.getD, List.getElem?_eq_getElem hk] at h
  simpa [bI] using h
theorem allB_full (p : Int → Bool) (l : List UInt8) : allB p (l.take l.length) = allB p l := by rw [List.take_length]
theorem sl_len (s : ByteArray) : s.data.toList.length = s.size := by simp
theorem sl_back (s : ByteArray) : (⟨s.data.toList.toArray⟩ : ByteArray) = s := rfl
theorem sl_nil {s : ByteArray} (h : s.size ≠ 0) : s.data.toList ≠ [] := fun e => h (by rw [← sl_len, e]; rfl)
--%%
set_option maxRecDepth 100000 in
set_option maxHeartbeats 3200000 in
theorem quote_c (s : ByteArray) (w : World) (hs : s.size ≤ 140737488351232) (rt : List UInt8) (re : Int) (ht : Hid (rt = qT s.data.toList)) (he : Hid (re = qE s.data.toList)) :
    Calls Tryd.prog 13 #[.string s] w fun e w' => e = .returned (.tuple #[.string ⟨rt.toArray⟩, .int .i64 re]) ∧ w = w' := by
  obtain ⟨l, hl⟩ : ∃ l, l = s.data.toList := ⟨_, rfl⟩
  have hln : l.length = s.size := by rw [hl]; simp
  have HT : Hid (rt = qT l) := by rw [hl]; exact ht
  have HE : Hid (re = qE l) := by rw [hl]; exact he
  have HS : Hid (s = ⟨l.toArray⟩) := by rw [hl]; rfl
  have HG : Hid (∀ k (h : k < s.size), ((s[k]).toNat : Int) = gB l k) := fun k h => by rw [hl]; exact byte_gB s k h
  have HL := Lib.hid hln
  obtain ⟨q1, hq1⟩ : ∃ q1, q1 = 34 :: l := ⟨_, rfl⟩
  obtain ⟨q2, hq2⟩ : ∃ q2, q2 = 34 :: (l ++ [34]) := ⟨_, rfl⟩
  have st1 : ∀ W, (Op.stringOp .add ⟨#[34]⟩ s).run Tryd.prog W = .ok (.string ⟨q1.toArray⟩) W := fun W => by
    rw [hq1, hl]; exact run_string_add_any W [34] s.data.toList (by simp; omega)
  have st2 : ∀ W, (Op.stringOp .add ⟨q1.toArray⟩ ⟨#[34]⟩).run Tryd.prog W = .ok (.string ⟨q2.toArray⟩) W := fun W => by
    rw [hq1, hq2]; exact run_string_add_any W (34 :: l) [34] (by simp; omega)
  have HQ2 := Lib.hid hq2
  clear hq1 hq2
  have HST := Lib.hid (And.intro st1 st2)
  clear ht he st1 st2 hl
  by_cases h0 : s.size = 0
  · obtain ⟨f1, f2⟩ := str_none s h0
    have hl0 : l = [] := List.length_eq_zero_iff.1 (by omega)
    have e1 : rt = q2 := by rw [HT.out, HQ2.out, hl0]; rfl
    have e2 : re = 0 := by rw [HE.out, hl0]; rfl
    subst e1; subst e2
    obtain ⟨st1, st2⟩ := HST.out
    clear HT HE HL hln HG hl0 HQ2
    go_enter Tryd.func13, Tryd.ntmps13
    go_wp2_with fail
    go_loop [4, 10] (fun b i => i = .int .i64 0 ∧ b = .bool false) (fun _ i => 0)
    case atStart => exact ⟨rfl, rfl⟩
    case round =>
      obtain ⟨rfl, rfl⟩ := hrel
      have v : (s.size : Int) = 0 := by omega
      go_wp2_with fail
      go_ret2
      exact ⟨rfl, rfl⟩
  obtain ⟨f1, f2⟩ := str_facts s h0
  have hne : l ≠ [] := by rintro rfl; exact h0 (by rw [← HL.out]; rfl)
  have HB : Hid (bareB l = allB plB l) := by unfold Hid bareB; simp [hne]
  clear hln hne
  go_enter Tryd.func13, Tryd.ntmps13
  go_wp2_with fail
  go_loop [4, 10] (fun b i => ∃ k : Nat, k ≤ s.size ∧ i = .int .i64 k ∧ b = .bool (allB plB (l.take k)) ∧ Hid (allB shB (l.take k) = true)) (fun _ i => s.size - (intOf i).toNat)
  case atStart => exact ⟨0, Nat.zero_le _, rfl, rfl, rfl⟩
  case round =>
    obtain ⟨k, hk', rfl, rfl, HA⟩ := hrel
    by_cases hk : k < s.size
    case neg =>
      obtain rfl : k = s.size := by omega
      have ht : l.take s.size = l := by rw [← HL.out]; exact List.take_length
      have hsh : allB shB l = true := by have := HA.out; rwa [ht] at this
      rw [ht]
      cases hp : allB plB l
      · obtain ⟨e1, e2⟩ := qT_quoted hsh (HB.out.trans hp)
        obtain rfl : re = 0 := HE.out.trans e1
        obtain rfl : rt = q2 := (HT.out.trans e2).trans HQ2.out.symm
        obtain ⟨st1, st2⟩ := HST.out
        clear e1 e2 ht hsh hp HE HT
        go_wp2_with fail
        go_ret2
        exact ⟨rfl, rfl⟩
      · obtain ⟨e1, e2⟩ := qT_bare (HB.out.trans hp)
        obtain rfl : re = 0 := HE.out.trans e1
        obtain rfl : rt = l := HT.out.trans e2
        have HS2 := HS
        clear e1 e2 ht hsh hp HE HT
        go_wp2_with fail
        go_ret2
        exact ⟨by rw [← HS.out]; rfl, rfl⟩
    have hbg := HG.out k hk
    have hkl : k < l.length := by rw [HL.out]; exact hk
    have HSP := Lib.hid (allB_succ plB l k hkl)
    have HSS := Lib.hid (allB_succ shB l k hkl)
    have HNO : Hid (shB (gB l k) = false → re = 5 ∧ rt = []) := fun h => by
      have := allB_no hkl h
      exact ⟨by rw [HE.out]; unfold qE; simp [this], by rw [HT.out]; unfold qT; simp [this]⟩
    have KS := Lib.hid (shown_c (gB l k))
    have KP := Lib.hid (plain_c (gB l k))
    generalize gB l k = c at *
    cases hc : shB c
    · obtain ⟨rfl, rfl⟩ := HNO.out hc
      rw [hc] at KS
      clear hc HE HT hkl HSS HSP
      go_wp2_with fail
      refine (KS.out _).mono ?_
      rintro e w1 ⟨rfl, rfl⟩
      go_wp2_with fail
      go_ret2
      exact ⟨rfl, rfl⟩
    rw [hc] at KS HSS
    have HA2 : Hid (allB shB (l.take (k + 1)) = true) := by unfold Hid; rw [HSS.out, HA.out]; rfl
    generalize allB plB (l.take k) = b at *
    clear hc HSS HA hkl HNO
    cases b
    · have HP2 : Hid (allB plB (l.take (k + 1)) = false) := HSP.out
      go_wp2_with fail
      refine (KS.out _).mono ?_
      rintro e w1 ⟨rfl, rfl⟩
      go_wp2_with fail
      go_round
      case rel => exact ⟨k + 1, by omega, by go_num, by rw [HP2.out], HA2.out⟩
      case measure => simp [intOf]; omega
    · have HP2 : Hid (allB plB (l.take (k + 1)) = plB c) := HSP.out
      generalize plB c = pb at *
      go_wp2_with fail
      refine (KS.out _).mono ?_
      rintro e w1 ⟨rfl, rfl⟩
      go_wp2_with fail
      refine (KP.out _).mono ?_
      rintro e w1 ⟨rfl, rfl⟩
      go_wp2_with fail
      go_round
      case rel => exact ⟨k + 1, by omega, by go_num, by rw [HP2.out], HA2.out⟩
      case measure => simp [intOf]; omega
--%%
end Go.Proofs.YtohdmfedappenaaDoor
