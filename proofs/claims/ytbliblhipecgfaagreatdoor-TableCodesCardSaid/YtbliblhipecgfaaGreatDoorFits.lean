/-
  Contract of table.Fits. Conditions as named.
-/
import Derived.Test.YtbliblhipecgfaaGreatDoorCode
import Derived.Test.YtbliblhipecgfaaGreatDoorM1
import Derived.Deep.QuietTactic
import Derived.BigQuiet
namespace Go.Proofs.YtbliblhipecgfaaGreatDoor
set_option linter.unusedVariables false
open Go.RowKit
theorem code_a (s k a f : Int) (h : codeErr s k a f = 0) : 0 ≤ a ∧ a ≤ 999999000 ∧ 0 ≤ s ∧ s ≤ 7 ∧ 1 ≤ k ∧ k ≤ 4 ∧ 0 ≤ f ∧ f ≤ 7 := by
  unfold codeErr at h
  split at h
  · omega
  · split at h
    · omega
    · split at h
      · omega
      · split at h
        · omega
        · split at h
          · omega
          · omega
--%%
/-- may a code be with a table? -/
def fitE (sch : List (List Bd)) (c : Cd) : Int :=
  if codeErr c.s c.k c.a c.f ≠ 0 then codeErr c.s c.k c.a c.f
  else if (sch.length : Int) ≤ c.s then 81
  else if c.k = 3 ∧ ((sch.getD c.s.toNat []).length : Int) ≤ c.f then 80 else 0
theorem tfits_c (sch : List (List Bd)) (As Ac Ak : Option Addr) (ns cs nc cc nk ck : Nat) (lim rnd : Int) (s k a f : Int) (al : Bool) (w : World) (hs : ScSl w As ns sch) (r : Int) (hr : Hid (r = fitE sch ⟨s, k, a, f, al⟩)) :
    Calls Tryz.prog 20 #[.agg #[.slice As ns cs, .slice Ac nc cc, .slice Ak nk ck, .int .i64 lim, .int .i64 rnd], .agg #[.int .i64 s, .int .i64 k, .int .i64 a, .int .i64 f, .bool al]] w fun e w' => e = .returned (.int .i64 r) ∧ Below w.heap.size w w' := by
  have z := (Blk.mk w 26 #[.slice As ns cs, .slice Ac nc cc, .slice Ak nk ck, .int .i64 lim, .int .i64 rnd]).alloc (.cells #[.int .i64 s, .int .i64 k, .int .i64 a, .int .i64 f, .bool al] 50)
  have y := Blk.mk (w.alloc (.cells #[.slice As ns cs, .slice Ac nc cc, .slice Ak nk ck, .int .i64 lim, .int .i64 rnd] 26)) 50 #[.int .i64 s, .int .i64 k, .int .i64 a, .int .i64 f, .bool al]
  rw [World.size_alloc] at y
  have hb0 := bA (below1 w (.cells #[.slice As ns cs, .slice Ac nc cc, .slice Ak nk ck, .int .i64 lim, .int .i64 rnd] 26)) (.cells #[.int .i64 s, .int .i64 k, .int .i64 a, .int .i64 f, .bool al] 50)
  have K := Lib.hid (ccheck_c s k a f al)
  have hR := hr.out
  unfold fitE at hR
  dsimp only at hR
  have HS := Lib.hid hs
  have hns := hs.1
  by_cases h1 : codeErr s k a f = 0
  case neg =>
    rw [if_pos h1] at hR
    rw [← hR] at K h1
    have t : (r != 0) = true := by simpa using h1
    clear hR h1 hs hns
    go_enter Tryz.func20, Tryz.ntmps20
    go_wp2_with fail
    refine (K.out _).mono ?_
    rintro e w1 ⟨rfl, hb1⟩
    go_wp2_with fail
    go_ret
    exact ⟨rfl, bT hb0 hb1⟩
  rw [if_neg (by simpa using h1)] at hR
  have ha := code_a s k a f h1
  rw [h1] at K
  rw [← hns] at hR
  clear h1
  by_cases h2 : (ns : Int) ≤ s
  · rw [if_pos h2] at hR
    subst hR
    have u2 : decide ((ns : Int) ≤ s) = true := by simpa using h2
    clear hs hns
    go_enter Tryz.func20, Tryz.ntmps20
    go_wp2_with fail
    refine (K.out _).mono ?_
    rintro e w1 ⟨rfl, hb1⟩
    have a0 := (y.t hb1).cell 0
    have t0 := (z.t hb1).cell 0
    go_wp2_with fail
    go_ret
    exact ⟨rfl, bT hb0 hb1⟩
  rw [if_neg h2] at hR
  have u2 : decide ((ns : Int) ≤ s) = false := by simpa using h2
  obtain ⟨i, rfl⟩ := Int.eq_ofNat_of_zero_le (show 0 ≤ s by omega)
  have hi : i < ns := by omega
  rw [Int.toNat_natCast] at hR
  have u22 : decide (ns ≤ i) = false := by simp; omega
  obtain ⟨b, off, rfl, hlt, hat⟩ := hs.2.2 (by omega)
  obtain ⟨A, n, c, c0, hbs⟩ := hat i hi
  rw [← hbs.1] at hR
  have HBS := Lib.hid hbs
  have s0 : (0 : Int) ≤ (i : Int) := by omega
  have s1 : (i : Int) < (ns : Int) := by omega
  have s2 : ((i : Int)).toNat = i := by omega
  have o1 : off + i * 1 = off + i := by omega
  rw [o1] at c0
  clear hs hns hat hbs o1
  by_cases h3 : k = 3
  · subst h3
    by_cases h4 : (n : Int) ≤ f
    · rw [if_pos ⟨rfl, h4⟩] at hR
      subst hR
      have u4 : decide ((n : Int) ≤ f) = true := by simpa using h4
      go_enter Tryz.func20, Tryz.ntmps20
      go_wp2_with fail
      refine (K.out _).mono ?_
      rintro e w1 ⟨rfl, hb1⟩
      have y1 := y.t hb1
      have a0 := y1.cell 0
      have a1 := y1.cell 1
      have a3 := y1.cell 3
      have t0 := (z.t hb1).cell 0
      have c1 := ((bT hb0 hb1).cell (p := ⟨b, off + i, none⟩) hlt).trans c0
      go_wp2_with fail
      go_quiet (fail)
      go_wp2_with fail
      go_ret
      exact ⟨rfl, bD (bT hb0 hb1) _⟩
    · rw [if_neg (fun h => h4 h.2)] at hR
      subst hR
      have u4 : decide ((n : Int) ≤ f) = false := by simpa using h4
      go_enter Tryz.func20, Tryz.ntmps20
      go_wp2_with fail
      refine (K.out _).mono ?_
      rintro e w1 ⟨rfl, hb1⟩
      have y1 := y.t hb1
      have a0 := y1.cell 0
      have a1 := y1.cell 1
      have a3 := y1.cell 3
      have t0 := (z.t hb1).cell 0
      have c1 := ((bT hb0 hb1).cell (p := ⟨b, off + i, none⟩) hlt).trans c0
      go_wp2_with fail
      go_quiet (fail)
      go_wp2_with fail
      go_ret
      exact ⟨rfl, bD (bT hb0 hb1) _⟩
  · rw [if_neg (fun h => h3 h.1)] at hR
    subst hR
    have u3 : (k == 3) = false := by simpa using h3
    go_enter Tryz.func20, Tryz.ntmps20
    go_wp2_with fail
    refine (K.out _).mono ?_
    rintro e w1 ⟨rfl, hb1⟩
    have y1 := y.t hb1
    have a0 := y1.cell 0
    have a1 := y1.cell 1
    have t0 := (z.t hb1).cell 0
    go_wp2_with fail
    go_quiet (fail)
    go_wp2_with fail
    go_ret
    exact ⟨rfl, bD (bT hb0 hb1) _⟩
--%%
end Go.Proofs.YtbliblhipecgfaaGreatDoor
