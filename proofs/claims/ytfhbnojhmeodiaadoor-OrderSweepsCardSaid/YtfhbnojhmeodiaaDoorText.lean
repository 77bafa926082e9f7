/-
  Contract of money.Text. Conditions as named.
-/
import Derived.Test.YtfhbnojhmeodiaaDoorFmt
import Derived.Laws.Concat
namespace Go.Proofs.YtfhbnojhmeodiaaDoor
set_option linter.unusedVariables false
open Go.RowKit
/-- an amount as it is written: its size, and whether it is negative -/
def textI (a : Int) (neg : Bool) : List UInt8 := (if neg then [45] else []) ++ (Lib.decDigits (a / 100).toNat ++ [46] ++ (if a % 100 < 10 then [48] else []) ++ Lib.decDigits (a % 100).toNat)
theorem dec_len (u : Nat) (hu : u < 18446744073709551616) : (Lib.decDigits u).length ≤ 20 := by
  by_cases h0 : u = 0
  · subst h0; rw [Lib.decDigits_one (by decide)]; decide
  · rw [Lib.decDigits_length]
    have := Lib.numDigits_eq u (by omega) hu
    split at this <;> omega
theorem str_eq {a : ByteArray} {l : List UInt8} (h : a.data.toList = l) : Ending.returned (.string a) = .returned (.string ⟨l.toArray⟩) := by
  subst h
  rfl
def textB (x : Int) : List UInt8 := textI x.natAbs (decide (x < 0))
--%%
set_option maxRecDepth 100000 in
set_option maxHeartbeats 1600000 in
theorem text_c (x : Int) (w : World) (h1 : -9223372036854775807 ≤ x) (h2 : x ≤ 9223372036854775807) (htab : Tab w) :
    Calls Tryd.prog 23 #[.int .i64 x] w fun e w' => e = .returned (.string ⟨(textB x).toArray⟩) ∧ Below w.heap.size w w' := by
  have KA := Lib.hid (abs_c x · h1 h2)
  obtain ⟨a, ha⟩ : ∃ a : Int, a = x.natAbs := ⟨_, rfl⟩
  rw [← ha] at KA
  have a0 : 0 ≤ a := by omega
  have a1 : a ≤ 9223372036854775807 := by omega
  have HB : Hid (textB x = textI a (decide (x < 0))) := by unfold Hid textB; rw [ha]
  have HT := Lib.hid htab
  have K1 := Lib.hid (fun W h => fmt_c (a / 100) (by omega) (by omega) W h)
  have K2 := Lib.hid (fun W h => fmt_c (a % 100) (by omega) (by omega) W h)
  have d0 : 0 ≤ a % 100 := by omega
  have d1 : a % 100 < 100 := by omega
  obtain ⟨s1, hs1⟩ : ∃ s1 : List UInt8, s1 = Lib.decDigits (a / 100).toNat := ⟨_, rfl⟩
  obtain ⟨s2, hs2⟩ : ∃ s2 : List UInt8, s2 = Lib.decDigits (a % 100).toNat := ⟨_, rfl⟩
  rw [← hs1] at K1
  rw [← hs2] at K2
  have l1 : s1.length ≤ 20 := by rw [hs1]; exact dec_len _ (by omega)
  have l2 : s2.length ≤ 20 := by rw [hs2]; exact dec_len _ (by omega)
  have H1 := Lib.hid hs1
  have H2 := Lib.hid hs2
  clear ha htab hs1 hs2
  by_cases hn : x < 0
  · have vn : decide (x < 0) = true := by simpa using hn
    by_cases h10 : a % 100 < 10
    · have v10 : decide (a % 100 < 10) = true := by simpa using h10
      have HB2 : Hid (textB x = 45 :: (s1 ++ 46 :: 48 :: s2)) := by unfold Hid; rw [HB.out, H1.out, H2.out]; unfold textI; simp [vn, h10]
      clear HB H1 H2 hn h10
      go_enter Tryd.func23, Tryd.ntmps23
      go_wp2_with fail
      refine (KA.out _).mono ?_
      rintro e w1 ⟨rfl, rfl⟩
      go_wp2_with fail
      refine (K1.out _ HT.out).mono ?_
      rintro e w1 ⟨rfl, hb1⟩
      go_wp2_with fail
      refine (K2.out _ (HT.out.t hb1)).mono ?_
      rintro e w2 ⟨rfl, hb2⟩
      go_wp2_with fail
      go_ret
      exact ⟨str_eq (by rw [HB2.out]; simp), bT hb1 hb2⟩
    · have v10 : decide (a % 100 < 10) = false := by simpa using h10
      have HB2 : Hid (textB x = 45 :: (s1 ++ 46 :: s2)) := by unfold Hid; rw [HB.out, H1.out, H2.out]; unfold textI; simp [vn, h10]
      clear HB H1 H2 hn h10
      go_enter Tryd.func23, Tryd.ntmps23
      go_wp2_with fail
      refine (KA.out _).mono ?_
      rintro e w1 ⟨rfl, rfl⟩
      go_wp2_with fail
      refine (K1.out _ HT.out).mono ?_
      rintro e w1 ⟨rfl, hb1⟩
      go_wp2_with fail
      refine (K2.out _ (HT.out.t hb1)).mono ?_
      rintro e w2 ⟨rfl, hb2⟩
      go_wp2_with fail
      go_ret
      exact ⟨str_eq (by rw [HB2.out]; simp), bT hb1 hb2⟩
  · have vn : decide (x < 0) = false := by simpa using hn
    by_cases h10 : a % 100 < 10
    · have v10 : decide (a % 100 < 10) = true := by simpa using h10
      have HB2 : Hid (textB x = (s1 ++ 46 :: 48 :: s2)) := by unfold Hid; rw [HB.out, H1.out, H2.out]; unfold textI; simp [vn, h10]
      clear HB H1 H2 hn h10
      go_enter Tryd.func23, Tryd.ntmps23
      go_wp2_with fail
      refine (KA.out _).mono ?_
      rintro e w1 ⟨rfl, rfl⟩
      go_wp2_with fail
      refine (K1.out _ HT.out).mono ?_
      rintro e w1 ⟨rfl, hb1⟩
      go_wp2_with fail
      refine (K2.out _ (HT.out.t hb1)).mono ?_
      rintro e w2 ⟨rfl, hb2⟩
      go_wp2_with fail
      go_ret
      exact ⟨str_eq (by rw [HB2.out]; simp), bT hb1 hb2⟩
    · have v10 : decide (a % 100 < 10) = false := by simpa using h10
      have HB2 : Hid (textB x = (s1 ++ 46 :: s2)) := by unfold Hid; rw [HB.out, H1.out, H2.out]; unfold textI; simp [vn, h10]
      clear HB H1 H2 hn h10
      go_enter Tryd.func23, Tryd.ntmps23
      go_wp2_with fail
      refine (KA.out _).mono ?_
      rintro e w1 ⟨rfl, rfl⟩
      go_wp2_with fail
      refine (K1.out _ HT.out).mono ?_
      rintro e w1 ⟨rfl, hb1⟩
      go_wp2_with fail
      refine (K2.out _ (HT.out.t hb1)).mono ?_
      rintro e w2 ⟨rfl, hb2⟩
      go_wp2_with fail
      go_ret
      exact ⟨str_eq (by rw [HB2.out]; simp), bT hb1 hb2⟩
--%%
end Go.Proofs.YtfhbnojhmeodiaaDoor
