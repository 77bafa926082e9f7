/-
  Contracts of code.Charge and table.Fits. Conditions as named.
-/
import Derived.Test.YtankoappneglcaaCode2
import Derived.Test.YtankoappneglcaaTable5
namespace Go.Proofs.Ytankoappneglcaa
set_option linter.unusedVariables false
open Go.RowKit
/-- why nothing is charged -/
def chargeE (c : Cd) (tx n d : Int) : Int :=
  if codeErr c.s c.k c.a c.f ≠ 0 then codeErr c.s c.k c.a c.f
  else if partB n d = false then 1
  else if c.k = 4 then (if mrB tx = true then 0 else 10)
  else if mrB tx = true ∧ mrB (tx - freeI c.k c.a n d) = true then 0 else 10
/-- how much is charged, where it is -/
def chargeV (c : Cd) (tx n d : Int) : Int := if c.k = 4 then 0 else max 0 (tx - freeI c.k c.a n d)
theorem free_bd (c : Cd) (n d : Int) (h : codeErr c.s c.k c.a c.f = 0) (hp : partB n d = true) : -999999000 ≤ freeI c.k c.a n d ∧ freeI c.k c.a n d ≤ 999999000 := by
  have ha := code_a c.s c.k c.a c.f h
  have hp' := partB_iff.1 hp
  have hq := part_bd c.a n d ha.1 (by omega) (by omega)
  unfold freeI
  split <;> omega
--%%
theorem charge_e (s k a f : Int) (al : Bool) (tx n d : Int) (w : World) (r : Int) (hr : Hid (r = chargeE ⟨s, k, a, f, al⟩ tx n d)) (h0 : r ≠ 0) :
    Calls Try.prog 57 #[.agg #[.int .i64 s, .int .i64 k, .int .i64 a, .int .i64 f, .bool al], .int .i64 tx, .int .i64 n, .int .i64 d] w fun e w' => e = .returned (.tuple #[.int .i64 0, .int .i64 r]) ∧ Below w.heap.size w w' := by
  have z := Blk.mk w 40 #[.int .i64 s, .int .i64 k, .int .i64 a, .int .i64 f, .bool al]
  have hb0 := below1 w (.cells #[.int .i64 s, .int .i64 k, .int .i64 a, .int .i64 f, .bool al] 40)
  have hR := hr.out
  unfold chargeE at hR
  dsimp only at hR
  by_cases h1 : codeErr s k a f = 0
  case neg =>
    rw [if_pos h1] at hR
    have K := Lib.hid (cfree_e s k a f al n d · h1)
    rw [← hR] at K
    have t : (r != 0) = true := by simpa using h0
    clear hR h0 h1
    go_enter Try.func57, Try.ntmps57
    go_wp2_with fail
    refine (K.out _).mono ?_
    rintro e w1 ⟨rfl, hb1⟩
    go_wp2_with fail
    go_ret2
    exact ⟨rfl, bT hb0 hb1⟩
  rw [if_neg (by simpa using h1)] at hR
  cases hp : partB n d
  · rw [if_pos hp] at hR
    have K := Lib.hid (cfree_r s k a f al n d · h1 hp)
    subst hR
    clear h1 hp h0
    go_enter Try.func57, Try.ntmps57
    go_wp2_with fail
    refine (K.out _).mono ?_
    rintro e w1 ⟨rfl, hb1⟩
    go_wp2_with fail
    go_ret2
    exact ⟨rfl, bT hb0 hb1⟩
  rw [if_neg (by rw [hp]; decide)] at hR
  have hfb := free_bd ⟨s, k, a, f, al⟩ n d h1 hp
  dsimp only at hfb
  have K := Lib.hid (cfree_t s k a f al n d · h1 hp)
  generalize freeI k a n d = fr at *
  clear h1 hp
  by_cases h4 : k = 4
  · rw [if_pos h4] at hR
    subst h4
    cases ht : mrB tx
    · rw [if_neg (by rw [ht]; decide)] at hR
      subst hR
      go_enter Try.func57, Try.ntmps57
      go_wp2_with fail
      refine (K.out _).mono ?_
      rintro e w1 ⟨rfl, hb1⟩
      have a1 := (z.t hb1).cell 1
      go_wp2_with fail
      refine (right1 _ _ _ tx _ (by simp)).mono ?_
      rw [ht]
      rintro e w' ⟨rfl, rfl⟩
      go_wp2_with fail
      go_ret2
      exact ⟨rfl, bA (bT hb0 hb1) _⟩
    · rw [if_pos ht] at hR
      exact absurd hR h0
  · rw [if_neg h4] at hR
    have u4 : (k == 4) = false := by simpa using h4
    by_cases hs : mrB tx = true ∧ mrB (tx - fr) = true
    · rw [if_pos hs] at hR
      exact absurd hR h0
    · rw [if_neg hs] at hR
      subst hR
      have K2 := Lib.hid (sub_f tx fr · (fun h => hs ⟨h.1, h.2.2⟩))
      clear hs h4
      go_enter Try.func57, Try.ntmps57
      go_wp2_with fail
      refine (K.out _).mono ?_
      rintro e w1 ⟨rfl, hb1⟩
      have a1 := (z.t hb1).cell 1
      go_wp2_with fail
      refine (K2.out _).mono ?_
      rintro e w2 ⟨rfl, hb2⟩
      go_wp2_with fail
      go_ret2
      exact ⟨rfl, bT (bT hb0 hb1) hb2⟩
theorem charge_t (s k a f : Int) (al : Bool) (tx n d : Int) (w : World) (hr : chargeE ⟨s, k, a, f, al⟩ tx n d = 0) :
    Calls Try.prog 57 #[.agg #[.int .i64 s, .int .i64 k, .int .i64 a, .int .i64 f, .bool al], .int .i64 tx, .int .i64 n, .int .i64 d] w fun e w' => e = .returned (.tuple #[.int .i64 (chargeV ⟨s, k, a, f, al⟩ tx n d), .int .i64 0]) ∧ Below w.heap.size w w' := by
  have z := Blk.mk w 40 #[.int .i64 s, .int .i64 k, .int .i64 a, .int .i64 f, .bool al]
  have hb0 := below1 w (.cells #[.int .i64 s, .int .i64 k, .int .i64 a, .int .i64 f, .bool al] 40)
  have hR := hr
  unfold chargeE at hR
  dsimp only at hR
  by_cases h1 : codeErr s k a f = 0
  case neg =>
    rw [if_pos h1] at hR
    exact absurd hR h1
  rw [if_neg (by simpa using h1)] at hR
  cases hp : partB n d
  · rw [if_pos hp] at hR
    cases hR
  rw [if_neg (by rw [hp]; decide)] at hR
  have hfb := free_bd ⟨s, k, a, f, al⟩ n d h1 hp
  dsimp only at hfb
  have K := Lib.hid (cfree_t s k a f al n d · h1 hp)
  have HV : Hid (chargeV ⟨s, k, a, f, al⟩ tx n d = if k = 4 then 0 else max 0 (tx - freeI k a n d)) := rfl
  generalize chargeV ⟨s, k, a, f, al⟩ tx n d = cv at *
  generalize freeI k a n d = fr at *
  clear h1 hp hr
  by_cases h4 : k = 4
  · rw [if_pos h4] at hR HV
    subst h4
    cases ht : mrB tx
    · rw [if_neg (by rw [ht]; decide)] at hR
      cases hR
    · go_enter Try.func57, Try.ntmps57
      go_wp2_with fail
      refine (K.out _).mono ?_
      rintro e w1 ⟨rfl, hb1⟩
      have a1 := (z.t hb1).cell 1
      go_wp2_with fail
      refine (right1 _ _ _ tx _ (by simp)).mono ?_
      rw [ht]
      rintro e w' ⟨rfl, rfl⟩
      go_wp2_with fail
      go_ret2
      exact ⟨ret2_int HV.out.symm rfl, bA (bT hb0 hb1) _⟩
  · rw [if_neg h4] at hR HV
    have u4 : (k == 4) = false := by simpa using h4
    by_cases hs : mrB tx = true ∧ mrB (tx - fr) = true
    case neg =>
      rw [if_neg hs] at hR
      cases hR
    have K2 := Lib.hid (sub_t tx fr · hs.1 (mr_t (by omega)) hs.2)
    clear hs h4 hR
    go_enter Try.func57, Try.ntmps57
    go_wp2_with fail
    refine (K.out _).mono ?_
    rintro e w1 ⟨rfl, hb1⟩
    have a1 := (z.t hb1).cell 1
    go_wp2_with fail
    refine (K2.out _).mono ?_
    rintro e w2 ⟨rfl, hb2⟩
    go_wp2_with fail
    go_ret2
    exact ⟨ret2_int HV.out.symm rfl, bT (bT hb0 hb1) hb2⟩
--%%
/-- may a code be with a table? -/
def fitE (sch : List (List Bd)) (c : Cd) : Int :=
  if codeErr c.s c.k c.a c.f ≠ 0 then codeErr c.s c.k c.a c.f
  else if (sch.length : Int) ≤ c.s then 81
  else if c.k = 3 ∧ ((sch.getD c.s.toNat []).length : Int) ≤ c.f then 80 else 0
theorem tfits_c (sch : List (List Bd)) (As Ac Ak : Option Addr) (ns cs nc cc nk ck : Nat) (lim rnd : Int) (s k a f : Int) (al : Bool) (w : World) (hs : ScSl w As ns sch) (r : Int) (hr : Hid (r = fitE sch ⟨s, k, a, f, al⟩)) :
    Calls Try.prog 8 #[.agg #[.slice As ns cs, .slice Ac nc cc, .slice Ak nk ck, .int .i64 lim, .int .i64 rnd], .agg #[.int .i64 s, .int .i64 k, .int .i64 a, .int .i64 f, .bool al]] w fun e w' => e = .returned (.int .i64 r) ∧ Below w.heap.size w w' := by
  have z := (Blk.mk w 26 #[.slice As ns cs, .slice Ac nc cc, .slice Ak nk ck, .int .i64 lim, .int .i64 rnd]).alloc (.cells #[.int .i64 s, .int .i64 k, .int .i64 a, .int .i64 f, .bool al] 40)
  have y := Blk.mk (w.alloc (.cells #[.slice As ns cs, .slice Ac nc cc, .slice Ak nk ck, .int .i64 lim, .int .i64 rnd] 26)) 40 #[.int .i64 s, .int .i64 k, .int .i64 a, .int .i64 f, .bool al]
  rw [World.size_alloc] at y
  have hb0 := bA (below1 w (.cells #[.slice As ns cs, .slice Ac nc cc, .slice Ak nk ck, .int .i64 lim, .int .i64 rnd] 26)) (.cells #[.int .i64 s, .int .i64 k, .int .i64 a, .int .i64 f, .bool al] 40)
  have K := Lib.hid (ccheck_c s k a f al)
  have hR := hr.out
  unfold fitE at hR
  dsimp only at hR
  have HS := Lib.hid hs
  have hns := hs.1
  by_cases h1 : codeErr s k a f = 0
  case neg =>
    rw [if_pos h1] at hR
    rw [← hR] at K h1
    have t : (r != 0) = true := by simpa using h1
    clear hR h1 hs hns
    go_enter Try.func8, Try.ntmps8
    go_wp2_with fail
    refine (K.out _).mono ?_
    rintro e w1 ⟨rfl, hb1⟩
    go_wp2_with fail
    go_ret
    exact ⟨rfl, bT hb0 hb1⟩
  rw [if_neg (by simpa using h1)] at hR
  have ha := code_a s k a f h1
  rw [h1] at K
  rw [← hns] at hR
  clear h1
  by_cases h2 : (ns : Int) ≤ s
  · rw [if_pos h2] at hR
    subst hR
    have u2 : decide ((ns : Int) ≤ s) = true := by simpa using h2
    clear hs hns
    go_enter Try.func8, Try.ntmps8
    go_wp2_with fail
    refine (K.out _).mono ?_
    rintro e w1 ⟨rfl, hb1⟩
    have a0 := (y.t hb1).cell 0
    have t0 := (z.t hb1).cell 0
    go_wp2_with fail
    go_ret
    exact ⟨rfl, bT hb0 hb1⟩
  rw [if_neg h2] at hR
  have u2 : decide ((ns : Int) ≤ s) = false := by simpa using h2
  obtain ⟨i, rfl⟩ := Int.eq_ofNat_of_zero_le (show 0 ≤ s by omega)
  have hi : i < ns := by omega
  rw [Int.toNat_natCast] at hR
  have u22 : decide (ns ≤ i) = false := by simp; omega
  obtain ⟨b, off, rfl, hlt, hat⟩ := hs.2.2 (by omega)
  obtain ⟨A, n, c, c0, hbs⟩ := hat i hi
  rw [← hbs.1] at hR
  have HBS := Lib.hid hbs
  have s0 : (0 : Int) ≤ (i : Int) := by omega
  have s1 : (i : Int) < (ns : Int) := by omega
  have s2 : ((i : Int)).toNat = i := by omega
  have o1 : off + i * 1 = off + i := by omega
  rw [o1] at c0
  clear hs hns hat hbs o1
  by_cases h3 : k = 3
  · subst h3
    by_cases h4 : (n : Int) ≤ f
    · rw [if_pos ⟨rfl, h4⟩] at hR
      subst hR
      have u4 : decide ((n : Int) ≤ f) = true := by simpa using h4
      go_enter Try.func8, Try.ntmps8
      go_wp2_with fail
      refine (K.out _).mono ?_
      rintro e w1 ⟨rfl, hb1⟩
      have y1 := y.t hb1
      have a0 := y1.cell 0
      have a1 := y1.cell 1
      have a3 := y1.cell 3
      have t0 := (z.t hb1).cell 0
      have c1 := ((bT hb0 hb1).cell (p := ⟨b, off + i, none⟩) hlt).trans c0
      go_wp2_with fail
      go_quiet (fail)
      go_wp2_with fail
      go_ret
      exact ⟨rfl, bD (bT hb0 hb1) _⟩
    · rw [if_neg (fun h => h4 h.2)] at hR
      subst hR
      have u4 : decide ((n : Int) ≤ f) = false := by simpa using h4
      go_enter Try.func8, Try.ntmps8
      go_wp2_with fail
      refine (K.out _).mono ?_
      rintro e w1 ⟨rfl, hb1⟩
      have y1 := y.t hb1
      have a0 := y1.cell 0
      have a1 := y1.cell 1
      have a3 := y1.cell 3
      have t0 := (z.t hb1).cell 0
      have c1 := ((bT hb0 hb1).cell (p := ⟨b, off + i, none⟩) hlt).trans c0
      go_wp2_with fail
      go_quiet (fail)
      go_wp2_with fail
      go_ret
      exact ⟨rfl, bD (bT hb0 hb1) _⟩
  · rw [if_neg (fun h => h3 h.1)] at hR
    subst hR
    have u3 : (k == 3) = false := by simpa using h3
    go_enter Try.func8, Try.ntmps8
    go_wp2_with fail
    refine (K.out _).mono ?_
    rintro e w1 ⟨rfl, hb1⟩
    have y1 := y.t hb1
    have a0 := y1.cell 0
    have a1 := y1.cell 1
    have t0 := (z.t hb1).cell 0
    go_wp2_with fail
    go_quiet (fail)
    go_wp2_with fail
    go_ret
    exact ⟨rfl, bD (bT hb0 hb1) _⟩
--%%
end Go.Proofs.Ytankoappneglcaa
