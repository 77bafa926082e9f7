/-
  Contracts of tax.Next and tax.Year. Conditions as named.
-/
import Derived.Test.YtankoappneglcaaTax3
import Derived.Test.YtankoappneglcaaPer
namespace Go.Proofs.Ytankoappneglcaa
set_option linter.unusedVariables false
open Go.RowKit
/-- a period: its code, and what is taxable in it -/
structure St where
  c : Cd
  x : Int
def st0 : St := ⟨⟨0, 0, 0, 0, false⟩, 0⟩
def stC (z : St) : List Value := [.int .i64 z.c.s, .int .i64 z.c.k, .int .i64 z.c.a, .int .i64 z.c.f, .bool z.c.al, .int .i64 z.x]
theorem stC_len (z : St) : (stC z).length = 6 := rfl
abbrev StSl := RowSl stC 6 st0
def dueV (sch : List (List Bd)) (rnd : Int) (c : Cd) (tx n d : Int) : Int := roundI (exV sch c tx n d) 10000 rnd
def nextE (sch : List (List Bd)) (rnd nom j : Int) (z : St) (tx ah : Int) : Int :=
  if z.c.al = false then exE sch z.c tx (min j nom) nom
  else if exE sch z.c z.x 1 nom ≠ 0 then exE sch z.c z.x 1 nom
  else if mrB ah = true ∧ mrB (dueV sch rnd z.c z.x 1 nom) = true ∧ mrB (ah + dueV sch rnd z.c z.x 1 nom) = true then 0 else 10
def nextV (sch : List (List Bd)) (rnd nom j : Int) (z : St) (tx ah : Int) : Int :=
  if z.c.al = false then dueV sch rnd z.c tx (min j nom) nom else ah + dueV sch rnd z.c z.x 1 nom
def sumX (l : List St) : Nat → Int
  | 0 => 0
  | k + 1 => sumX l k + (l.getD k st0).x
def dueA (sch : List (List Bd)) (rnd nom : Int) (l : List St) : Nat → Int
  | 0 => 0
  | k + 1 => nextV sch rnd nom ((k : Int) + 1) (l.getD k st0) (sumX l k + (l.getD k st0).x) (dueA sch rnd nom l k)
def yE (sch : List (List Bd)) (rnd nom : Int) (l : List St) (k : Nat) : Int :=
  if mrB (sumX l k) = true ∧ mrB (l.getD k st0).x = true ∧ mrB (sumX l k + (l.getD k st0).x) = true then nextE sch rnd nom ((k : Int) + 1) (l.getD k st0) (sumX l k + (l.getD k st0).x) (dueA sch rnd nom l k) else 10
def dueL (sch : List (List Bd)) (rnd nom : Int) (l : List St) (n : Nat) : List Int := (List.range n).map fun k => dueA sch rnd nom l (k + 1)
theorem dueL_snoc (sch : List (List Bd)) (rnd nom : Int) (l : List St) (n : Nat) : dueL sch rnd nom l (n + 1) = dueL sch rnd nom l n ++ [dueA sch rnd nom l (n + 1)] := by
  simp [dueL, List.range_succ]
--%%
theorem tnext_e (sch : List (List Bd)) (As Ac Ak : Option Addr) (ns cs nc cc nk ck : Nat) (lim rnd fq days : Int) (hf : nomI fq ≠ 0) (hd : 0 ≤ days ∧ days ≤ 366) (g : Nat) (j s k a f : Int) (al : Bool) (x tx ah : Int) (w : World) (hs : ScSl w As ns sch) (hok : ∀ k, k < ns → bandsErr (sch.getD k []) = 0) (hm : modeB rnd = true) (hy : YrAt w g fq days) (hj : 1 ≤ j ∧ j ≤ cntI fq days) (r : Int) (hr : Hid (r = nextE sch rnd (nomI fq) j ⟨⟨s, k, a, f, al⟩, x⟩ tx ah)) (h0 : r ≠ 0) :
    Calls Try.prog 26 #[.agg #[.slice As ns cs, .slice Ac nc cc, .slice Ak nk ck, .int .i64 lim, .int .i64 rnd], .pointer (some ⟨g, 0, none⟩), .int .i64 j, .agg #[.int .i64 s, .int .i64 k, .int .i64 a, .int .i64 f, .bool al, .int .i64 x], .int .i64 tx, .int .i64 ah] w fun e w' => e = .returned (.tuple #[.int .i64 0, .int .i64 r]) ∧ Below w.heap.size w w' := by
  have t : (r != 0) = true := by simpa using h0
  cases al
  · have hb0 := bA (below1 w (.cells #[.slice As ns cs, .slice Ac nc cc, .slice Ak nk ck, .int .i64 lim, .int .i64 rnd] 26)) (.cells #[.int .i64 s, .int .i64 k, .int .i64 a, .int .i64 f, .bool false, .int .i64 x] 42)
    have z := (Blk.mk w 26 #[.slice As ns cs, .slice Ac nc cc, .slice Ak nk ck, .int .i64 lim, .int .i64 rnd]).alloc (.cells #[.int .i64 s, .int .i64 k, .int .i64 a, .int .i64 f, .bool false, .int .i64 x] 42)
    have y := Blk.mk (w.alloc (.cells #[.slice As ns cs, .slice Ac nc cc, .slice Ak nk ck, .int .i64 lim, .int .i64 rnd] 26)) 42 #[.int .i64 s, .int .i64 k, .int .i64 a, .int .i64 f, .bool false, .int .i64 x]
    rw [World.size_alloc] at y
    have KP := Lib.hid (ypart_t fq days j hf hd g _ (hy.t hb0) hj)
    have HS := Lib.hid hs
    generalize nomI fq = nf at *
    have hR : r = exE sch ⟨s, k, a, f, false⟩ tx (min j nf) nf := hr.out
    have KD := Lib.hid (fun W h => tdue_e sch As Ac Ak ns cs nc cc nk ck lim rnd s k a f false tx (min j nf) nf W h r hR h0)
    clear hs hok hR hr h0 hy hj
    generalize min j nf = mj at *
    go_enter Try.func26, Try.ntmps26
    go_wp2_with fail
    refine KP.out.mono ?_
    rintro e w1 ⟨rfl, hb1⟩
    obtain ⟨p0, p1, p2, p3, p4⟩ := (z.t hb1).all5
    obtain ⟨q0, q1, q2, q3, q4, q5⟩ := (y.t hb1).all6
    go_wp2_with fail
    refine (KD.out _ (HS.out.below (bT hb0 hb1))).mono ?_
    rintro e w2 ⟨rfl, hb2⟩
    go_wp2_with fail
    go_ret2
    exact ⟨rfl, bT (bT hb0 hb1) hb2⟩
  have hb0 := bA (below1 w (.cells #[.slice As ns cs, .slice Ac nc cc, .slice Ak nk ck, .int .i64 lim, .int .i64 rnd] 26)) (.cells #[.int .i64 s, .int .i64 k, .int .i64 a, .int .i64 f, .bool true, .int .i64 x] 42)
  have z := (Blk.mk w 26 #[.slice As ns cs, .slice Ac nc cc, .slice Ak nk ck, .int .i64 lim, .int .i64 rnd]).alloc (.cells #[.int .i64 s, .int .i64 k, .int .i64 a, .int .i64 f, .bool true, .int .i64 x] 42)
  have y := Blk.mk (w.alloc (.cells #[.slice As ns cs, .slice Ac nc cc, .slice Ak nk ck, .int .i64 lim, .int .i64 rnd] 26)) 42 #[.int .i64 s, .int .i64 k, .int .i64 a, .int .i64 f, .bool true, .int .i64 x]
  rw [World.size_alloc] at y
  have KP := Lib.hid (ypart_t fq days j hf hd g _ (hy.t hb0) hj)
  have HS := Lib.hid hs
  generalize nomI fq = nf at *
  have hR : r = if exE sch ⟨s, k, a, f, true⟩ x 1 nf ≠ 0 then exE sch ⟨s, k, a, f, true⟩ x 1 nf else if mrB ah = true ∧ mrB (dueV sch rnd ⟨s, k, a, f, true⟩ x 1 nf) = true ∧ mrB (ah + dueV sch rnd ⟨s, k, a, f, true⟩ x 1 nf) = true then 0 else 10 := hr.out
  by_cases h1 : exE sch ⟨s, k, a, f, true⟩ x 1 nf = 0
  case neg =>
    rw [if_pos h1] at hR
    have KD := Lib.hid (fun W h => tdue_e sch As Ac Ak ns cs nc cc nk ck lim rnd s k a f true x 1 nf W h r hR h0)
    clear hs hok hR hr h0 h1 hy hj
    generalize min j nf = mj at *
    go_enter Try.func26, Try.ntmps26
    go_wp2_with fail
    refine KP.out.mono ?_
    rintro e w1 ⟨rfl, hb1⟩
    obtain ⟨p0, p1, p2, p3, p4⟩ := (z.t hb1).all5
    obtain ⟨q0, q1, q2, q3, q4, q5⟩ := (y.t hb1).all6
    go_wp2_with fail
    refine (KD.out _ (HS.out.below (bT hb0 hb1))).mono ?_
    rintro e w2 ⟨rfl, hb2⟩
    go_wp2_with fail
    go_ret2
    exact ⟨rfl, bT (bT hb0 hb1) hb2⟩
  rw [if_neg (by simpa using h1)] at hR
  have KD := Lib.hid (fun W h => tdue_t sch As Ac Ak ns cs nc cc nk ck lim rnd s k a f true x 1 nf W h hok hm h1)
  have hov : roundI (exV sch ⟨s, k, a, f, true⟩ x 1 nf) 10000 rnd = dueV sch rnd ⟨s, k, a, f, true⟩ x 1 nf := rfl
  rw [hov] at KD
  generalize dueV sch rnd ⟨s, k, a, f, true⟩ x 1 nf = ov at *
  by_cases h2 : mrB ah = true ∧ mrB ov = true ∧ mrB (ah + ov) = true
  · rw [if_pos h2] at hR; exact absurd hR h0
  rw [if_neg h2] at hR
  subst hR
  have KA := Lib.hid (add_f ah ov · h2)
  clear hs hok hr h0 h1 hy hj hov h2
  generalize min j nf = mj at *
  go_enter Try.func26, Try.ntmps26
  go_wp2_with fail
  refine KP.out.mono ?_
  rintro e w1 ⟨rfl, hb1⟩
  obtain ⟨p0, p1, p2, p3, p4⟩ := (z.t hb1).all5
  obtain ⟨q0, q1, q2, q3, q4, q5⟩ := (y.t hb1).all6
  go_wp2_with fail
  refine (KD.out _ (HS.out.below (bT hb0 hb1))).mono ?_
  rintro e w2 ⟨rfl, hb2⟩
  go_wp2_with fail
  refine (KA.out _).mono ?_
  rintro e w3 ⟨rfl, hb3⟩
  go_wp2_with fail
  go_ret2
  exact ⟨rfl, bT (bT (bT hb0 hb1) hb2) hb3⟩
theorem tnext_t (sch : List (List Bd)) (As Ac Ak : Option Addr) (ns cs nc cc nk ck : Nat) (lim rnd fq days : Int) (hf : nomI fq ≠ 0) (hd : 0 ≤ days ∧ days ≤ 366) (g : Nat) (j s k a f : Int) (al : Bool) (x tx ah : Int) (w : World) (hs : ScSl w As ns sch) (hok : ∀ k, k < ns → bandsErr (sch.getD k []) = 0) (hm : modeB rnd = true) (hy : YrAt w g fq days) (hj : 1 ≤ j ∧ j ≤ cntI fq days) (hr : nextE sch rnd (nomI fq) j ⟨⟨s, k, a, f, al⟩, x⟩ tx ah = 0) (v : Int) (hv : Hid (v = nextV sch rnd (nomI fq) j ⟨⟨s, k, a, f, al⟩, x⟩ tx ah)) :
    Calls Try.prog 26 #[.agg #[.slice As ns cs, .slice Ac nc cc, .slice Ak nk ck, .int .i64 lim, .int .i64 rnd], .pointer (some ⟨g, 0, none⟩), .int .i64 j, .agg #[.int .i64 s, .int .i64 k, .int .i64 a, .int .i64 f, .bool al, .int .i64 x], .int .i64 tx, .int .i64 ah] w fun e w' => e = .returned (.tuple #[.int .i64 v, .int .i64 0]) ∧ Below w.heap.size w w' := by
  cases al
  · have hb0 := bA (below1 w (.cells #[.slice As ns cs, .slice Ac nc cc, .slice Ak nk ck, .int .i64 lim, .int .i64 rnd] 26)) (.cells #[.int .i64 s, .int .i64 k, .int .i64 a, .int .i64 f, .bool false, .int .i64 x] 42)
    have z := (Blk.mk w 26 #[.slice As ns cs, .slice Ac nc cc, .slice Ak nk ck, .int .i64 lim, .int .i64 rnd]).alloc (.cells #[.int .i64 s, .int .i64 k, .int .i64 a, .int .i64 f, .bool false, .int .i64 x] 42)
    have y := Blk.mk (w.alloc (.cells #[.slice As ns cs, .slice Ac nc cc, .slice Ak nk ck, .int .i64 lim, .int .i64 rnd] 26)) 42 #[.int .i64 s, .int .i64 k, .int .i64 a, .int .i64 f, .bool false, .int .i64 x]
    rw [World.size_alloc] at y
    have KP := Lib.hid (ypart_t fq days j hf hd g _ (hy.t hb0) hj)
    have HS := Lib.hid hs
    generalize nomI fq = nf at *
    have hR : exE sch ⟨s, k, a, f, false⟩ tx (min j nf) nf = 0 := hr
    have KD := Lib.hid (fun W h => tdue_t sch As Ac Ak ns cs nc cc nk ck lim rnd s k a f false tx (min j nf) nf W h hok hm hR)
    have hV : v = roundI (exV sch ⟨s, k, a, f, false⟩ tx (min j nf) nf) 10000 rnd := hv.out
    rw [← hV] at KD
    clear hs hok hR hr hV hv hy hj
    generalize min j nf = mj at *
    go_enter Try.func26, Try.ntmps26
    go_wp2_with fail
    refine KP.out.mono ?_
    rintro e w1 ⟨rfl, hb1⟩
    obtain ⟨p0, p1, p2, p3, p4⟩ := (z.t hb1).all5
    obtain ⟨q0, q1, q2, q3, q4, q5⟩ := (y.t hb1).all6
    go_wp2_with fail
    refine (KD.out _ (HS.out.below (bT hb0 hb1))).mono ?_
    rintro e w2 ⟨rfl, hb2⟩
    go_wp2_with fail
    go_ret2
    exact ⟨rfl, bT (bT hb0 hb1) hb2⟩
  have hb0 := bA (below1 w (.cells #[.slice As ns cs, .slice Ac nc cc, .slice Ak nk ck, .int .i64 lim, .int .i64 rnd] 26)) (.cells #[.int .i64 s, .int .i64 k, .int .i64 a, .int .i64 f, .bool true, .int .i64 x] 42)
  have z := (Blk.mk w 26 #[.slice As ns cs, .slice Ac nc cc, .slice Ak nk ck, .int .i64 lim, .int .i64 rnd]).alloc (.cells #[.int .i64 s, .int .i64 k, .int .i64 a, .int .i64 f, .bool true, .int .i64 x] 42)
  have y := Blk.mk (w.alloc (.cells #[.slice As ns cs, .slice Ac nc cc, .slice Ak nk ck, .int .i64 lim, .int .i64 rnd] 26)) 42 #[.int .i64 s, .int .i64 k, .int .i64 a, .int .i64 f, .bool true, .int .i64 x]
  rw [World.size_alloc] at y
  have KP := Lib.hid (ypart_t fq days j hf hd g _ (hy.t hb0) hj)
  have HS := Lib.hid hs
  generalize nomI fq = nf at *
  have hR : (if exE sch ⟨s, k, a, f, true⟩ x 1 nf ≠ 0 then exE sch ⟨s, k, a, f, true⟩ x 1 nf else if mrB ah = true ∧ mrB (dueV sch rnd ⟨s, k, a, f, true⟩ x 1 nf) = true ∧ mrB (ah + dueV sch rnd ⟨s, k, a, f, true⟩ x 1 nf) = true then 0 else 10) = 0 := hr
  have hV : v = ah + dueV sch rnd ⟨s, k, a, f, true⟩ x 1 nf := hv.out
  by_cases h1 : exE sch ⟨s, k, a, f, true⟩ x 1 nf = 0
  case neg => rw [if_pos h1] at hR; exact absurd hR h1
  rw [if_neg (by simpa using h1)] at hR
  have KD := Lib.hid (fun W h => tdue_t sch As Ac Ak ns cs nc cc nk ck lim rnd s k a f true x 1 nf W h hok hm h1)
  have hov : roundI (exV sch ⟨s, k, a, f, true⟩ x 1 nf) 10000 rnd = dueV sch rnd ⟨s, k, a, f, true⟩ x 1 nf := rfl
  rw [hov] at KD
  clear hv hr
  generalize dueV sch rnd ⟨s, k, a, f, true⟩ x 1 nf = ov at *
  by_cases h2 : mrB ah = true ∧ mrB ov = true ∧ mrB (ah + ov) = true
  case neg => rw [if_neg h2] at hR; cases hR
  have KA := Lib.hid (add_t ah ov · h2.1 h2.2.1 h2.2.2)
  rw [← hV] at KA
  clear hs hok hR h1 hy hj hov h2 hV
  generalize min j nf = mj at *
  go_enter Try.func26, Try.ntmps26
  go_wp2_with fail
  refine KP.out.mono ?_
  rintro e w1 ⟨rfl, hb1⟩
  obtain ⟨p0, p1, p2, p3, p4⟩ := (z.t hb1).all5
  obtain ⟨q0, q1, q2, q3, q4, q5⟩ := (y.t hb1).all6
  go_wp2_with fail
  refine (KD.out _ (HS.out.below (bT hb0 hb1))).mono ?_
  rintro e w2 ⟨rfl, hb2⟩
  go_wp2_with fail
  refine (KA.out _).mono ?_
  rintro e w3 ⟨rfl, hb3⟩
  go_wp2_with fail
  go_ret2
  exact ⟨rfl, bT (bT (bT hb0 hb1) hb2) hb3⟩
theorem tnext_r (As Ac Ak : Option Addr) (ns cs nc cc nk ck : Nat) (lim rnd fq days : Int) (hf : nomI fq ≠ 0) (hd : 0 ≤ days ∧ days ≤ 366) (g : Nat) (j s k a f : Int) (al : Bool) (x tx ah : Int) (w : World) (hy : YrAt w g fq days) (hj : ¬ (1 ≤ j ∧ j ≤ cntI fq days)) :
    Calls Try.prog 26 #[.agg #[.slice As ns cs, .slice Ac nc cc, .slice Ak nk ck, .int .i64 lim, .int .i64 rnd], .pointer (some ⟨g, 0, none⟩), .int .i64 j, .agg #[.int .i64 s, .int .i64 k, .int .i64 a, .int .i64 f, .bool al, .int .i64 x], .int .i64 tx, .int .i64 ah] w fun e w' => e = .returned (.tuple #[.int .i64 0, .int .i64 1]) ∧ Below w.heap.size w w' := by
  have hb0 := bA (below1 w (.cells #[.slice As ns cs, .slice Ac nc cc, .slice Ak nk ck, .int .i64 lim, .int .i64 rnd] 26)) (.cells #[.int .i64 s, .int .i64 k, .int .i64 a, .int .i64 f, .bool al, .int .i64 x] 42)
  have KP := Lib.hid (ypart_f fq days j hf hd g _ (hy.t hb0) hj)
  clear hy hj
  go_enter Try.func26, Try.ntmps26
  go_wp2_with fail
  refine KP.out.mono ?_
  rintro e w1 ⟨rfl, rfl⟩
  go_wp2_with fail
  go_ret2
  exact ⟨rfl, hb0⟩
--%%
end Go.Proofs.Ytankoappneglcaa
