/-
  The walk of TableCodes. Conditions as named.
-/
import Derived.Test.YtbliblhipecgfaaGreatDoorTBuild
import Derived.Test.YtbliblhipecgfaaGreatDoorTSmall
import Derived.Test.YtbliblhipecgfaaGreatDoorFits
namespace Go.Proofs.YtbliblhipecgfaaGreatDoor
set_option linter.unusedVariables false
open Go.RowKit
--%%
set_option maxRecDepth 100000 in
set_option maxHeartbeats 3200000 in
theorem tableCodes_row (sch : List (List Bd)) (cts : List Ct) (kds : List Kd) (As Ac Ak : Option Addr) (ns cs nc cc nk ck : Nat) (lim rnd : Int) (s k a f : Int) (al : Bool) (w : World) (h : TbIn w sch cts kds As Ac Ak ns cs nc cc nk ck) (_ : True) (htab : Tab w) (htab2 : TabS w) (hml : ML w) :
    Calls Tryz.prog 6 #[.agg #[.slice As ns cs, .slice Ac nc cc, .slice Ak nk ck, .int .i64 lim, .int .i64 rnd], .agg #[.int .i64 s, .int .i64 k, .int .i64 a, .int .i64 f, .bool al]] w fun e w' => e = .returned (.bool true) ∧ Below w.heap.size w w' := by
  have hb0 := bA (below1 w (.cells #[.slice As ns cs, .slice Ac nc cc, .slice Ak nk ck, .int .i64 lim, .int .i64 rnd] 26)) (.cells #[.int .i64 s, .int .i64 k, .int .i64 a, .int .i64 f, .bool al] 50)
  have HB0 := Lib.hid hb0
  have z := (Blk.mk w 26 #[.slice As ns cs, .slice Ac nc cc, .slice Ak nk ck, .int .i64 lim, .int .i64 rnd]).alloc (.cells #[.int .i64 s, .int .i64 k, .int .i64 a, .int .i64 f, .bool al] 50)
  have y := Blk.mk (w.alloc (.cells #[.slice As ns cs, .slice Ac nc cc, .slice Ak nk ck, .int .i64 lim, .int .i64 rnd] 26)) 50 #[.int .i64 s, .int .i64 k, .int .i64 a, .int .i64 f, .bool al]
  rw [World.size_alloc] at y
  have HZ := Lib.hid z
  have HY := Lib.hid y
  have KB := Lib.hid (builds_c _ (hml.t hb0) (htab2.t hb0) (htab.t hb0))
  have HH := Lib.hid h
  have KS : Hid (∀ W, Below w.heap.size w W → Calls Tryz.prog 12 #[.agg #[.slice As ns cs, .slice Ac nc cc, .slice Ak nk ck, .int .i64 lim, .int .i64 rnd]] W (SmallR sch cts kds W)) := fun W hW => small_c sch cts kds As Ac Ak ns cs nc cc nk ck lim rnd W (h.s.below hW) (h.c.below hW) (h.k.below hW)
  obtain ⟨r, hr⟩ : ∃ r, r = fitE sch ⟨s, k, a, f, al⟩ := ⟨_, rfl⟩
  have KF : Hid (∀ W, Below w.heap.size w W → Calls Tryz.prog 20 #[.agg #[.slice As ns cs, .slice Ac nc cc, .slice Ak nk ck, .int .i64 lim, .int .i64 rnd], .agg #[.int .i64 s, .int .i64 k, .int .i64 a, .int .i64 f, .bool al]] W fun e w' => e = .returned (.int .i64 r) ∧ Below W.heap.size W w') := fun W hW => tfits_c sch As Ac Ak ns cs nc cc nk ck lim rnd s k a f al W (h.s.below hW) r hr
  have KC := Lib.hid (ccheck_c s k a f al)
  have HR := Lib.hid hr
  clear hb0 h htab htab2 hml z y hr
  go_enter Tryz.func6, Tryz.ntmps6
  go_wp2_with fail
  refine KB.out.mono ?_
  rintro e w1 ⟨⟨Bs, ds, Bc, dc, Bk, dk, rfl, _⟩, hb1⟩
  simp only [tbV]
  have HB1 := Lib.hid (bA (bT HB0.out hb1) (.cells #[.slice Bs 1 ds, .slice Bc 1 dc, .slice Bk 2 dk, .int .i64 5000, .int .i64 1] 26))
  have z1 := (HZ.out.t hb1).alloc (.cells #[.slice Bs 1 ds, .slice Bc 1 dc, .slice Bk 2 dk, .int .i64 5000, .int .i64 1] 26)
  have y1 := (HY.out.t hb1).alloc (.cells #[.slice Bs 1 ds, .slice Bc 1 dc, .slice Bk 2 dk, .int .i64 5000, .int .i64 1] 26)
  have HZ1 := Lib.hid z1
  have HY1 := Lib.hid y1
  obtain ⟨p0, p1, p2, p3, p4⟩ := z1.all5
  clear KB HZ HY hb1 z1 y1
  go_wp2_with fail
  refine (KS.out _ HB1.out).mono ?_
  rintro e w2 ⟨b, ⟨rfl, _⟩, hb2⟩
  have HB2 := Lib.hid (bT HB1.out hb2)
  have HZ2 := Lib.hid (HZ1.out.t hb2)
  have HY2 := Lib.hid (HY1.out.t hb2)
  clear hb2 p0 p1 p2 p3 p4 KS
  cases b
  · go_wp2_with fail
    go_ret
    exact ⟨rfl, HB2.out⟩
  obtain ⟨p0, p1, p2, p3, p4⟩ := HZ2.out.all5
  obtain ⟨q0, q1, q2, q3, q4⟩ := HY2.out.all5
  go_wp2_with fail
  refine (KF.out _ HB2.out).mono ?_
  rintro e w3 ⟨rfl, hb3⟩
  have HB3 := Lib.hid (bT HB2.out hb3)
  have HZ3 := Lib.hid (HZ2.out.t hb3)
  have HY3 := Lib.hid (HY2.out.t hb3)
  clear hb3 p0 p1 p2 p3 p4 q0 q1 q2 q3 q4 KF
  obtain ⟨q0, q1, q2, q3, q4⟩ := HY3.out.all5
  go_wp2_with fail
  refine (KC.out _).mono ?_
  rintro e w4 ⟨rfl, hb4⟩
  have HB4 := Lib.hid (bT HB3.out hb4)
  have HZ4 := Lib.hid (HZ3.out.t hb4)
  have HY4 := Lib.hid (HY3.out.t hb4)
  clear hb4 q0 q1 q2 q3 q4 KC
  by_cases h1 : codeErr s k a f = 0
  case neg =>
    have HE : Hid (r = codeErr s k a f) := HR.out.trans (by unfold fitE; rw [if_pos h1])
    generalize codeErr s k a f = ce at *
    have v1 : (ce != 0) = true := by simpa using h1
    have v2 : (r == ce) = true := by simpa using HE.out
    clear h1 HE HR
    go_wp2_with fail
    go_ret
    exact ⟨rfl, HB4.out⟩
  have ha := code_a s k a f h1
  have HF : Hid (r = if (sch.length : Int) ≤ s then 81 else if k = 3 ∧ ((sch.getD s.toNat []).length : Int) ≤ f then 80 else 0) := HR.out.trans (by unfold fitE; rw [if_neg (by simpa using h1)])
  have HNS : Hid (ns = sch.length) := HH.out.s.1
  rw [h1]
  clear HR h1
  obtain ⟨p0, p1, p2, p3, p4⟩ := HZ4.out.all5
  obtain ⟨q0, q1, q2, q3, q4⟩ := HY4.out.all5
  by_cases h2 : (ns : Int) ≤ s
  · obtain rfl : r = 81 := HF.out.trans (if_pos (by rw [← HNS.out]; exact h2))
    have u2 : decide ((ns : Int) ≤ s) = true := by simpa using h2
    clear h2 HF
    go_wp2_with fail
    go_ret
    exact ⟨rfl, HB4.out⟩
  have HF2 : Hid (r = if k = 3 ∧ ((sch.getD s.toNat []).length : Int) ≤ f then 80 else 0) := HF.out.trans (if_neg (by rw [← HNS.out]; exact h2))
  have u2 : decide ((ns : Int) ≤ s) = false := by simpa using h2
  obtain ⟨i, rfl⟩ := Int.eq_ofNat_of_zero_le (show 0 ≤ s by omega)
  have hi : i < ns := by omega
  have hS := HH.out.s.below HB4.out
  obtain ⟨b, off, rfl, hlt, hat⟩ := hS.2.2 (by omega)
  obtain ⟨A, n, c, c0, hbs⟩ := hat i hi
  have HNN : Hid (n = (sch.getD i []).length) := hbs.1
  have u22 : decide (ns ≤ i) = false := by simp; omega
  have s0 : (0 : Int) ≤ (i : Int) := by omega
  have s1 : (i : Int) < (ns : Int) := by omega
  have s2 : ((i : Int)).toNat = i := by omega
  rw [Nat.mul_one] at c0
  clear hS hat hbs HF h2
  by_cases h3 : k = 3
  · subst h3
    by_cases h4 : (n : Int) ≤ f
    · obtain rfl : r = 80 := HF2.out.trans (if_pos ⟨rfl, by rw [s2, ← HNN.out]; exact h4⟩)
      have u4 : decide ((n : Int) ≤ f) = true := by simpa using h4
      clear h4 HF2
      go_wp2_with fail
      go_quiet (fail)
      go_wp2_with fail
      go_ret
      exact ⟨rfl, bD HB4.out _⟩
    · obtain rfl : r = 0 := HF2.out.trans (if_neg (by rw [s2, ← HNN.out]; exact fun h => h4 h.2))
      have u4 : decide ((n : Int) ≤ f) = false := by simpa using h4
      clear h4 HF2
      go_wp2_with fail
      go_quiet (fail)
      go_wp2_with fail
      go_ret
      exact ⟨rfl, bD HB4.out _⟩
  · obtain rfl : r = 0 := HF2.out.trans (if_neg (fun h => h3 h.1))
    have u3 : (k == 3) = false := by simpa using h3
    clear h3 HF2
    go_wp2_with fail
    go_quiet (fail)
    go_wp2_with fail
    go_ret
    exact ⟨rfl, bD HB4.out _⟩
--%%
end Go.Proofs.YtbliblhipecgfaaGreatDoor
