/-
  Contracts of functions that the claim reaches, and the plain laws behind them. Conditions as named in each.
-/
import Derived.Test.YtiaabmhjkoohmaaGreatTable2
import Derived.Deep.RegionHeld3
import Derived.LoopN
import Derived.Test.YtiaabmhjkoohmaaGreatPair2
import Derived.Lib.MinMax
import Derived.Deep.RegionLaw
import Derived.BigRegion
import Derived.Test.YtiaabmhjkoohmaaGreatBook2
import Derived.IntWalk
import Derived.Test.YtiaabmhjkoohmaaGreatClone
import Derived.Deep.QuietTactic
import Derived.BigQuiet
import Derived.Laws.StructEq
namespace Go.Proofs.YtiaabmhjkoohmaaGreat
set_option linter.unusedVariables false
set_option linter.unusedSimpArgs false
open Go.RowKit
theorem Blk.all4 {w : World} {g : Nat} {t : TypeId} {a b c d : Value} (h : Blk w g t #[a, b, c, d]) : w.cell? ⟨g, 0, none⟩ = some a ∧ w.cell? ⟨g, 1, none⟩ = some b ∧ w.cell? ⟨g, 2, none⟩ = some c ∧ w.cell? ⟨g, 3, none⟩ = some d :=
 ⟨h.cell 0, h.cell 1, h.cell 2, h.cell 3⟩
theorem sign_c (n : Int) (w : World) : Calls Tryz.prog 192 #[.int .i64 n] w fun e w' => e = .returned (.bool (decide (-1 ≤ n ∧ n ≤ 1))) ∧ w = w' := by
 by_cases h1 : -1 ≤ n
 ·
  by_cases h2 : n ≤ 1
  ·
   go_enter Tryz.func192, Tryz.ntmps192
   go_wp2
   go_ret
   exact ⟨rb9 (by simp; omega), rfl⟩
  ·
   go_enter Tryz.func192, Tryz.ntmps192
   go_wp2
   go_ret
   exact ⟨rb9 (by simp; omega), rfl⟩
 ·
  go_enter Tryz.func192, Tryz.ntmps192
  go_wp2
  go_ret
  exact ⟨rb9 (by simp; omega), rfl⟩
structure ScOK (x : List Bd) : Prop where
 bands : bE9 x = 0
 e : ∀ i, i < x.length → (x.getD i bd0).e = 0
structure TbOK (sch : List (List Bd)) (cts : List Ct) (kds : List Kd) (lim rnd : Int) : Prop where
 lim : rateB lim = true
 rnd : modeB rnd = true
 sn : 1 ≤ sch.length
 sch : ∀ k, k < sch.length → ScOK (sch.getD k [])
 cts : ∀ k, k < cts.length → CtOK (cts.getD k ct0)
 kds : ∀ k, k < kds.length → KdOK (kds.getD k kd0)
theorem sB5 {w W W1 : World} {B : Nat} {v0 v1 v2 v3 v4 : Value} (hB : B = w.heap.size)
  (h : W.cell? ⟨B, 0, none⟩ = some v0 ∧ W.cell? ⟨B, 1, none⟩ = some v1 ∧ W.cell? ⟨B, 2, none⟩ = some v2 ∧ W.cell? ⟨B, 3, none⟩ = some v3 ∧ W.cell? ⟨B, 4, none⟩ = some v4 ∧ w.heap.size < W.heap.size ∧ Below w.heap.size w W) (hb : Below W.heap.size W W1) :
  W1.cell? ⟨B, 0, none⟩ = some v0 ∧ W1.cell? ⟨B, 1, none⟩ = some v1 ∧ W1.cell? ⟨B, 2, none⟩ = some v2 ∧ W1.cell? ⟨B, 3, none⟩ = some v3 ∧ W1.cell? ⟨B, 4, none⟩ = some v4 ∧ w.heap.size < W1.heap.size ∧ Below w.heap.size w W1 := by
 obtain ⟨h0, h1, h2, h3, h4, h5, h6⟩ := h
 have hlt : B < W.heap.size := by omega
 have e : ∀ o, W1.cell? ⟨B, o, none⟩ = W.cell? ⟨B, o, none⟩ := fun o => hb.cell (p := ⟨B, o, none⟩) hlt
 exact ⟨(e _).trans h0, (e _).trans h1, (e _).trans h2, (e _).trans h3, (e _).trans h4, Nat.lt_of_lt_of_le h5 hb.size, h6.trans (hb.mono h6.size)⟩
end Go.Proofs.YtiaabmhjkoohmaaGreat
namespace Go.Proofs.YtiaabmhjkoohmaaGreat
set_option maxRecDepth 100000
set_option maxHeartbeats 25600000
set_option linter.unusedVariables false
set_option linter.unusedSimpArgs false
open Go.RowKit Tryz
open Lib (hid)
def chargeE (c : Cd) (tx n d : Int) : Int :=
 if cE9 c.s c.k c.a c.f ≠ 0 then cE9 c.s c.k c.a c.f
 else if partB n d = false then 1
 else if c.k = 4 then (if mrB tx = true then 0 else 10)
 else if mrB tx = true ∧ mrB (tx - freeI c.k c.a n d) = true then 0 else 10
def chargeV (c : Cd) (tx n d : Int) : Int := if c.k = 4 then 0 else max 0 (tx - freeI c.k c.a n d)
theorem free_bd (c : Cd) (n d : Int) (h : cE9 c.s c.k c.a c.f = 0) (hp : partB n d = true) : -999999000 ≤ freeI c.k c.a n d ∧ freeI c.k c.a n d ≤ 999999000 := by
 have ha := code_a c.s c.k c.a c.f h
 have hp' := partB_iff.1 hp
 have hq := part_bd c.a n d ha.1 (by omega) (by omega)
 unfold freeI
 split <;> omega
theorem charge_e (s k a f : Int) (al : Bool) (tx n d : Int) (w : World) (r : Int) (hr : Hid (r = chargeE ⟨s, k, a, f, al⟩ tx n d)) (h0 : r ≠ 0) :
  Calls prog 195 #[.agg #[.int .i64 s, .int .i64 k, .int .i64 a, .int .i64 f, .bool al], .int .i64 tx, .int .i64 n, .int .i64 d] w fun e w' => e = .returned (.tuple #[.int .i64 0, .int .i64 r]) ∧ Below w.heap.size w w' := by
 have z := Blk.mk w 28 #[.int .i64 s, .int .i64 k, .int .i64 a, .int .i64 f, .bool al]
 have hb0 := below1 w (.cells #[.int .i64 s, .int .i64 k, .int .i64 a, .int .i64 f, .bool al] 28)
 have hR := hr.out
 unfold chargeE at hR
 dsimp only at hR
 by_cases h1 : cE9 s k a f = 0
 case neg =>
  rw [if_pos h1] at hR
  have K := hid (cfree_e s k a f al n d · h1)
  rw [← hR] at K
  have t : (r != 0) = true := by simpa using h0
  clear hR h0 h1
  go_enter func195, ntmps195
  go_wp2_with fail
  refine (K.out _).mono ?_
  rintro e w1 ⟨rfl, hb1⟩
  go_wp2_with fail
  go_ret2
  exact ⟨rfl, bT hb0 hb1⟩
 rw [if_neg (by simpa using h1)] at hR
 cases hp : partB n d
 ·
  rw [if_pos hp] at hR
  have K := hid (cfree_r s k a f al n d · h1 hp)
  subst hR
  clear h1 hp h0
  go_enter func195, ntmps195
  go_wp2_with fail
  refine (K.out _).mono ?_
  rintro e w1 ⟨rfl, hb1⟩
  go_wp2_with fail
  go_ret2
  exact ⟨rfl, bT hb0 hb1⟩
 rw [if_neg (by rw [hp]; decide)] at hR
 have hfb := free_bd ⟨s, k, a, f, al⟩ n d h1 hp
 dsimp only at hfb
 have K := hid (cfree_t s k a f al n d · h1 hp)
 generalize freeI k a n d = fr at *
 clear h1 hp
 by_cases h4 : k = 4
 ·
  rw [if_pos h4] at hR
  subst h4
  cases ht : mrB tx
  ·
   rw [if_neg (by rw [ht]; decide)] at hR
   subst hR
   go_enter func195, ntmps195
   go_wp2_with fail
   refine (K.out _).mono ?_
   rintro e w1 ⟨rfl, hb1⟩
   have a1 := (z.t hb1).cell 1
   go_wp2_with fail
   refine (right1 _ _ _ tx _ (by simp)).mono ?_
   rw [ht]
   rintro e w' ⟨rfl, rfl⟩
   go_wp2_with fail
   go_ret2
   exact ⟨rfl, bA (bT hb0 hb1) _⟩
  ·
   rw [if_pos ht] at hR
   exact absurd hR h0
 ·
  rw [if_neg h4] at hR
  have u4 : (k == 4) = false := by simpa using h4
  by_cases hs : mrB tx = true ∧ mrB (tx - fr) = true
  ·
   rw [if_pos hs] at hR
   exact absurd hR h0
  ·
   rw [if_neg hs] at hR
   subst hR
   have K2 := hid (sub_f tx fr · (fun h => hs ⟨h.1, h.2.2⟩))
   clear hs h4
   go_enter func195, ntmps195
   go_wp2_with fail
   refine (K.out _).mono ?_
   rintro e w1 ⟨rfl, hb1⟩
   have a1 := (z.t hb1).cell 1
   go_wp2_with fail
   refine (K2.out _).mono ?_
   rintro e w2 ⟨rfl, hb2⟩
   go_wp2_with fail
   go_ret2
   exact ⟨rfl, bT (bT hb0 hb1) hb2⟩
theorem charge_t (s k a f : Int) (al : Bool) (tx n d : Int) (w : World) (hr : chargeE ⟨s, k, a, f, al⟩ tx n d = 0) :
  Calls prog 195 #[.agg #[.int .i64 s, .int .i64 k, .int .i64 a, .int .i64 f, .bool al], .int .i64 tx, .int .i64 n, .int .i64 d] w fun e w' => e = .returned (.tuple #[.int .i64 (chargeV ⟨s, k, a, f, al⟩ tx n d), .int .i64 0]) ∧ Below w.heap.size w w' := by
 have z := Blk.mk w 28 #[.int .i64 s, .int .i64 k, .int .i64 a, .int .i64 f, .bool al]
 have hb0 := below1 w (.cells #[.int .i64 s, .int .i64 k, .int .i64 a, .int .i64 f, .bool al] 28)
 have hR := hr
 unfold chargeE at hR
 dsimp only at hR
 by_cases h1 : cE9 s k a f = 0
 case neg =>
  rw [if_pos h1] at hR
  exact absurd hR h1
 rw [if_neg (by simpa using h1)] at hR
 cases hp : partB n d
 ·
  rw [if_pos hp] at hR
  cases hR
 rw [if_neg (by rw [hp]; decide)] at hR
 have hfb := free_bd ⟨s, k, a, f, al⟩ n d h1 hp
 dsimp only at hfb
 have K := hid (cfree_t s k a f al n d · h1 hp)
 have HV : Hid (chargeV ⟨s, k, a, f, al⟩ tx n d = if k = 4 then 0 else max 0 (tx - freeI k a n d)) := rfl
 generalize chargeV ⟨s, k, a, f, al⟩ tx n d = cv at *
 generalize freeI k a n d = fr at *
 clear h1 hp hr
 by_cases h4 : k = 4
 ·
  rw [if_pos h4] at hR HV
  subst h4
  cases ht : mrB tx
  ·
   rw [if_neg (by rw [ht]; decide)] at hR
   cases hR
  ·
   go_enter func195, ntmps195
   go_wp2_with fail
   refine (K.out _).mono ?_
   rintro e w1 ⟨rfl, hb1⟩
   have a1 := (z.t hb1).cell 1
   go_wp2_with fail
   refine (right1 _ _ _ tx _ (by simp)).mono ?_
   rw [ht]
   rintro e w' ⟨rfl, rfl⟩
   go_wp2_with fail
   go_ret2
   exact ⟨ret2_int HV.out.symm rfl, bA (bT hb0 hb1) _⟩
 ·
  rw [if_neg h4] at hR HV
  have u4 : (k == 4) = false := by simpa using h4
  by_cases hs : mrB tx = true ∧ mrB (tx - fr) = true
  case neg =>
   rw [if_neg hs] at hR
   cases hR
  have K2 := hid (sub_t tx fr · hs.1 (mr_t (by omega)) hs.2)
  clear hs h4 hR
  go_enter func195, ntmps195
  go_wp2_with fail
  refine (K.out _).mono ?_
  rintro e w1 ⟨rfl, hb1⟩
  have a1 := (z.t hb1).cell 1
  go_wp2_with fail
  refine (K2.out _).mono ?_
  rintro e w2 ⟨rfl, hb2⟩
  go_wp2_with fail
  go_ret2
  exact ⟨ret2_int HV.out.symm rfl, bT (bT hb0 hb1) hb2⟩
def exE (sch : List (List Bd)) (c : Cd) (tx n d : Int) : Int := if fitE sch c ≠ 0 then fitE sch c else chargeE c tx n d
def exV (sch : List (List Bd)) (c : Cd) (tx n d : Int) : Int :=
 if c.k = 4 then 0 else if c.k = 3 then chargeV c tx n d * ((sch.getD c.s.toNat []).getD c.f.toNat bd0).r
 else progS (chargeV c tx n d) (fr (sch.getD c.s.toNat []) n d) (fun k => ((sch.getD c.s.toNat []).getD k bd0).r) (sch.getD c.s.toNat []).length (sch.getD c.s.toNat []).length
theorem fit_ok {sch : List (List Bd)} {c : Cd} (h : fitE sch c = 0) : cE9 c.s c.k c.a c.f = 0 ∧ 0 ≤ c.s ∧ c.s < sch.length ∧ 0 ≤ c.f ∧ (c.k = 3 → c.f < (sch.getD c.s.toNat []).length) := by
 unfold fitE at h
 by_cases h1 : cE9 c.s c.k c.a c.f = 0
 ·
  rw [if_neg (by simpa using h1)] at h
  have ha := code_a _ _ _ _ h1
  by_cases h2 : (sch.length : Int) ≤ c.s
  ·
   rw [if_pos h2] at h; cases h
  ·
   rw [if_neg h2] at h
   refine ⟨h1, by omega, by omega, by omega, fun h3 => ?_⟩
   by_cases h4 : ((sch.getD c.s.toNat []).length : Int) ≤ c.f
   ·
    rw [if_pos ⟨h3, h4⟩] at h; cases h
   ·
    omega
 ·
  rw [if_pos h1] at h
  exact absurd h h1
theorem charge_ok {c : Cd} {tx n d : Int} (h : chargeE c tx n d = 0) : partB n d = true ∧ 0 ≤ chargeV c tx n d ∧ chargeV c tx n d ≤ 100000000000 ∧ mrB tx = true := by
 unfold chargeE at h
 by_cases h1 : cE9 c.s c.k c.a c.f = 0
 ·
  rw [if_neg (by simpa using h1)] at h
  cases hp : partB n d
  ·
   rw [if_pos hp] at h; cases h
  ·
   rw [if_neg (by rw [hp]; decide)] at h
   unfold chargeV
   by_cases h4 : c.k = 4
   ·
    rw [if_pos h4] at h ⊢
    refine ⟨rfl, Int.le_refl _, by decide, ?_⟩
    cases ht : mrB tx
    ·
     rw [ht] at h; simp at h
    ·
     rfl
   ·
    rw [if_neg h4] at h ⊢
    by_cases hs : mrB tx = true ∧ mrB (tx - freeI c.k c.a n d) = true
    ·
     have := mr_iff.1 hs.2
     exact ⟨rfl, by omega, by omega, hs.1⟩
    ·
     rw [if_neg hs] at h; cases h
 ·
  rw [if_pos h1] at h
  exact absurd h h1
theorem ScAt.one {w : World} {A : Option Addr} {ns : Nat} {sch : List (List Bd)} (hs : ScSl w A ns sch) (i : Nat) (hi : i < ns) : ∃ b off B n c, A = some ⟨b, off, none⟩ ∧ b < w.heap.size ∧ w.cell? ⟨b, off + i, none⟩ = some (.slice B n c) ∧ BandSl w B n (sch.getD i []) := by
 obtain ⟨b, off, hA, hlt, hat⟩ := hs.2.2 (by omega)
 obtain ⟨B, n, c, c0, hbs⟩ := hat i hi
 exact ⟨b, off, B, n, c, hA, hlt, by rw [Nat.mul_one] at c0; exact c0, hbs⟩
theorem texact_e (sch : List (List Bd)) (As Ac Ak : Option Addr) (ns cs nc cc nk ck : Nat) (lim rnd : Int) (s k a f : Int) (al : Bool) (tx n d : Int) (w : World) (hs : ScSl w As ns sch) (r : Int) (hr : Hid (r = exE sch ⟨s, k, a, f, al⟩ tx n d)) (h0 : r ≠ 0) :
  Calls prog 176 #[.agg #[.slice As ns cs, .slice Ac nc cc, .slice Ak nk ck, .int .i64 lim, .int .i64 rnd], .agg #[.int .i64 s, .int .i64 k, .int .i64 a, .int .i64 f, .bool al], .int .i64 tx, .int .i64 n, .int .i64 d] w fun e w' => e = .returned (.tuple #[.int .i64 0, .int .i64 r]) ∧ Below w.heap.size w w' := by
 have z := (Blk.mk w 26 #[.slice As ns cs, .slice Ac nc cc, .slice Ak nk ck, .int .i64 lim, .int .i64 rnd]).alloc (.cells #[.int .i64 s, .int .i64 k, .int .i64 a, .int .i64 f, .bool al] 28)
 have y := Blk.mk (w.alloc (.cells #[.slice As ns cs, .slice Ac nc cc, .slice Ak nk ck, .int .i64 lim, .int .i64 rnd] 26)) 28 #[.int .i64 s, .int .i64 k, .int .i64 a, .int .i64 f, .bool al]
 rw [World.size_alloc] at y
 have hb0 := bA (below1 w (.cells #[.slice As ns cs, .slice Ac nc cc, .slice Ak nk ck, .int .i64 lim, .int .i64 rnd] 26)) (.cells #[.int .i64 s, .int .i64 k, .int .i64 a, .int .i64 f, .bool al] 28)
 have t : (r != 0) = true := by simpa using h0
 have hR := hr.out
 unfold exE at hR
 by_cases h1 : fitE sch ⟨s, k, a, f, al⟩ = 0
 case neg =>
  rw [if_pos h1] at hR
  have K := hid (tfits_c sch As Ac Ak ns cs nc cc nk ck lim rnd s k a f al _ (hs.below hb0) r hR)
  clear hR h0 h1 hs
  go_enter func176, ntmps176
  go_wp2_with fail
  refine K.out.mono ?_
  rintro e w1 ⟨rfl, hb1⟩
  go_wp2_with fail
  go_ret2
  exact ⟨rfl, bT hb0 hb1⟩
 rw [if_neg (by simpa using h1)] at hR
 have K := hid (tfits_c sch As Ac Ak ns cs nc cc nk ck lim rnd s k a f al _ (hs.below hb0) 0 h1.symm)
 have K2 := hid (charge_e s k a f al tx n d · r hR h0)
 clear hR h0 h1 hs
 go_enter func176, ntmps176
 go_wp2_with fail
 refine K.out.mono ?_
 rintro e w1 ⟨rfl, hb1⟩
 have y1 := y.t hb1
 obtain ⟨p0, p1, p2, p3, p4⟩ := y1.all5
 go_wp2_with fail
 refine (K2.out _).mono ?_
 rintro e w2 ⟨rfl, hb2⟩
 go_wp2_with fail
 go_ret2
 exact ⟨rfl, bT (bT hb0 hb1) hb2⟩
theorem texact_t (sch : List (List Bd)) (As Ac Ak : Option Addr) (ns cs nc cc nk ck : Nat) (lim rnd : Int) (s k a f : Int) (al : Bool) (tx n d : Int) (w : World) (hs : ScSl w As ns sch) (hok : ∀ k, k < ns → bE9 (sch.getD k []) = 0) (hr : exE sch ⟨s, k, a, f, al⟩ tx n d = 0) :
  Calls prog 176 #[.agg #[.slice As ns cs, .slice Ac nc cc, .slice Ak nk ck, .int .i64 lim, .int .i64 rnd], .agg #[.int .i64 s, .int .i64 k, .int .i64 a, .int .i64 f, .bool al], .int .i64 tx, .int .i64 n, .int .i64 d] w fun e w' => e = .returned (.tuple #[.int .i64 (exV sch ⟨s, k, a, f, al⟩ tx n d), .int .i64 0]) ∧ Below w.heap.size w w' := by
 have z := (Blk.mk w 26 #[.slice As ns cs, .slice Ac nc cc, .slice Ak nk ck, .int .i64 lim, .int .i64 rnd]).alloc (.cells #[.int .i64 s, .int .i64 k, .int .i64 a, .int .i64 f, .bool al] 28)
 have y := Blk.mk (w.alloc (.cells #[.slice As ns cs, .slice Ac nc cc, .slice Ak nk ck, .int .i64 lim, .int .i64 rnd] 26)) 28 #[.int .i64 s, .int .i64 k, .int .i64 a, .int .i64 f, .bool al]
 rw [World.size_alloc] at y
 have hb0 := bA (below1 w (.cells #[.slice As ns cs, .slice Ac nc cc, .slice Ak nk ck, .int .i64 lim, .int .i64 rnd] 26)) (.cells #[.int .i64 s, .int .i64 k, .int .i64 a, .int .i64 f, .bool al] 28)
 have hR := hr
 unfold exE at hR
 by_cases h1 : fitE sch ⟨s, k, a, f, al⟩ = 0
 case neg =>
  rw [if_pos h1] at hR
  exact absurd hR h1
 rw [if_neg (by simpa using h1)] at hR
 have K := hid (tfits_c sch As Ac Ak ns cs nc cc nk ck lim rnd s k a f al _ (hs.below hb0) 0 h1.symm)
 have K2 := hid (charge_t s k a f al tx n d · hR)
 obtain ⟨hc0, hs0, hs1, hf0, hf3⟩ := fit_ok h1
 obtain ⟨hp, hv0, hv1, _⟩ := charge_ok hR
 dsimp only at hc0 hs0 hs1 hf0 hf3
 obtain ⟨i, rfl⟩ := Int.eq_ofNat_of_zero_le hs0
 rw [Int.toNat_natCast] at hf3
 have hi : i < ns := by have := hs.1; omega
 have hBE := hok i hi
 obtain ⟨gb, go, B, nb, cb, rfl, hlt, c0, hbs⟩ := ScAt.one hs i hi
 have HV : Hid (exV sch ⟨(i : Int), k, a, f, al⟩ tx n d = if k = 4 then 0 else if k = 3 then chargeV ⟨(i : Int), k, a, f, al⟩ tx n d * ((sch.getD i []).getD f.toNat bd0).r else progS (chargeV ⟨(i : Int), k, a, f, al⟩ tx n d) (fr (sch.getD i []) n d) (fun k => ((sch.getD i []).getD k bd0).r) (sch.getD i []).length (sch.getD i []).length) := rfl
 generalize exV sch ⟨(i : Int), k, a, f, al⟩ tx n d = ev at *
 generalize chargeV ⟨(i : Int), k, a, f, al⟩ tx n d = cv at *
 have HBS := hid hbs
 have ii0 : (0 : Int) ≤ (i : Int) := by omega
 have ii1 : (i : Int) < (ns : Int) := by omega
 have ii2 : ((i : Int)).toNat = i := by omega
 clear h1 hR hr hs hok hbs hc0 hs0 hs1
 by_cases h4 : k = 4
 ·
  subst h4
  rw [if_pos rfl] at HV
  go_enter func176, ntmps176
  go_wp2_with fail
  refine K.out.mono ?_
  rintro e w1 ⟨rfl, hb1⟩
  have y1 := y.t hb1
  obtain ⟨p0, p1, p2, p3, p4⟩ := y1.all5
  go_wp2_with fail
  refine (K2.out _).mono ?_
  rintro e w2 ⟨rfl, hb2⟩
  have a1 := (y1.t hb2).cell 1
  go_wp2_with fail
  go_ret2
  exact ⟨ret2_int HV.out.symm rfl, bT (bT hb0 hb1) hb2⟩
 rw [if_neg h4] at HV
 have u4 : (k == 4) = false := by simpa using h4
 by_cases h3 : k = 3
 ·
  subst h3
  rw [if_pos rfl] at HV
  obtain ⟨j, rfl⟩ := Int.eq_ofNat_of_zero_le hf0
  have hj : j < nb := by have := hf3 rfl; have := HBS.out.1; omega
  rw [Int.toNat_natCast] at HV
  have hrb := (goodB _ hBE).r j (by have := HBS.out.1; omega)
  obtain ⟨b2, o2, rfl, hlt2, hat2⟩ := HBS.out.2.2 (by omega)
  obtain ⟨_, d1, _⟩ := hat2 j (by have := HBS.out.1; omega)
  generalize ((sch.getD i []).getD j bd0).r = br at *
  have KP := hid (part_t cv br · (mr_t (by omega)) (rateB_iff.2 hrb))
  have jj0 : (0 : Int) ≤ (j : Int) := by omega
  have jj1 : (j : Int) < (nb : Int) := by omega
  have jj2 : ((j : Int)).toNat = j := by omega
  clear hat2 hf3 hBE h4 hf0
  go_enter func176, ntmps176
  go_wp2_with fail
  refine K.out.mono ?_
  rintro e w1 ⟨rfl, hb1⟩
  have y1 := y.t hb1
  have z1 := z.t hb1
  obtain ⟨p0, p1, p2, p3, p4⟩ := y1.all5
  go_wp2_with fail
  refine (K2.out _).mono ?_
  rintro e w2 ⟨rfl, hb2⟩
  have y2 := y1.t hb2
  have z2 := z1.t hb2
  have a1 := y2.cell 1
  have hb3 := bT (bT hb0 hb1) hb2
  have c1 := (hb3.cell (p := ⟨gb, go + i, none⟩) hlt).trans c0
  have e1 := (hb3.cell (p := ⟨b2, o2 + j * 3 + 1, none⟩) hlt2).trans d1
  have hs3 := hb3.size
  have hl1 : gb < w2.heap.size := by omega
  have hl2 : b2 < w2.heap.size := by omega
  have G : Hid (∀ W, Below w2.heap.size w2 W → Below w2.heap.size w2 W ∧ W.cell? ⟨w.heap.size, 0, none⟩ = some (.slice (some ⟨gb, go, none⟩) ns cs) ∧ W.cell? ⟨w.heap.size + 1, 0, none⟩ = some (.int .i64 i) ∧ W.cell? ⟨w.heap.size + 1, 3, none⟩ = some (.int .i64 j) ∧ W.cell? ⟨gb, go + i, none⟩ = some (.slice (some ⟨b2, o2, none⟩) nb cb) ∧ W.cell? ⟨b2, o2 + j * 3 + 1, none⟩ = some (.int .i64 br)) := fun W hW => ⟨hW, (z2.t hW).cell 0, (y2.t hW).cell 0, (y2.t hW).cell 3, (hW.cell (p := ⟨gb, go + i, none⟩) hl1).trans c1, (hW.cell (p := ⟨b2, o2 + j * 3 + 1, none⟩) hl2).trans e1⟩
  go_wp2_with fail
  go_region_held3 (fun W => Below w2.heap.size w2 W ∧ W.cell? ⟨w.heap.size, 0, none⟩ = some (.slice (some ⟨gb, go, none⟩) ns cs) ∧ W.cell? ⟨w.heap.size + 1, 0, none⟩ = some (.int .i64 i) ∧ W.cell? ⟨w.heap.size + 1, 3, none⟩ = some (.int .i64 j) ∧ W.cell? ⟨gb, go + i, none⟩ = some (.slice (some ⟨b2, o2, none⟩) nb cb) ∧ W.cell? ⟨b2, o2 + j * 3 + 1, none⟩ = some (.int .i64 br))
   (first | assumption | exact G.out _ (b0 _).drew | (exact sK G.out (by assumption) (by assumption)))
   (first | (go_at_call 182; (with_reducible refine (KP.out _).mono ?_); rintro e w6 ⟨rfl, hb6⟩))
  all_goals
   have hbz := bT hb3 (show Below w2.heap.size w2 _ ∧ _ from by assumption).1
   go_wp2_with fail
   go_ret2
   exact ⟨ret2_int HV.out.symm rfl, hbz⟩
 ·
  rw [if_neg h3] at HV
  have u3 : (k == 3) = false := by simpa using h3
  have KS := hid (fun W h => bscale_c (sch.getD i []) B nb cb n d W h hBE hp)
  have KE := hid (fun A m c W h => bexact1_c cv (sc9 (sch.getD i []) n d (sch.getD i []).length) A m c W h (scale_err hBE n d hp) (mr_t (by omega)))
  have hval := scale_val hBE n d cv hp
  rw [hval] at KE
  rw [HBS.out.1] at KS
  generalize progS cv (fr (sch.getD i []) n d) (fun k => ((sch.getD i []).getD k bd0).r) (sch.getD i []).length (sch.getD i []).length = pv at *
  rw [← HBS.out.1] at KS
  have HNB := hid HBS.out.1
  clear hval hf3 hBE h4 h3
  go_enter func176, ntmps176
  go_wp2_with fail
  refine K.out.mono ?_
  rintro e w1 ⟨rfl, hb1⟩
  have y1 := y.t hb1
  have z1 := z.t hb1
  obtain ⟨p0, p1, p2, p3, p4⟩ := y1.all5
  go_wp2_with fail
  refine (K2.out _).mono ?_
  rintro e w2 ⟨rfl, hb2⟩
  have y2 := y1.t hb2
  have z2 := z1.t hb2
  have a0 := y2.cell 0
  have a1 := y2.cell 1
  have t0 := z2.cell 0
  have hb3 := bT (bT hb0 hb1) hb2
  have c1 := (hb3.cell (p := ⟨gb, go + i, none⟩) hlt).trans c0
  go_wp2_with fail
  refine (KS.out _ (HBS.out.below hb3)).mono ?_
  rintro e w3 ⟨⟨v, m, rfl, hv⟩, hb4⟩
  obtain ⟨Av, cv2, rfl, _, hbv⟩ := hv.sl
  have hbv' : BandSl w3 Av m (sc9 (sch.getD i []) n d (sch.getD i []).length) := by rw [← HNB.out]; exact hbv
  have HBV := hid hbv'
  clear hv hbv hbv'
  go_wp2_with fail
  refine (KE.out _ _ _ _ HBV.out).mono ?_
  rintro e w4 ⟨rfl, hb5⟩
  go_wp2_with fail
  go_ret2
  exact ⟨ret2_int HV.out.symm rfl, bT (bT hb3 hb4) hb5⟩
def topTo (l : List Bd) : Nat → Int
 | 0 => 0
 | k + 1 => max (topTo l k) (l.getD k bd0).r
theorem top_mono (l : List Bd) (k : Nat) : ∀ d, topTo l k ≤ topTo l (k + d) := by
 intro d
 induction d with
 | zero => exact Int.le_refl _
 | succ d ih => rw [← Nat.add_assoc, topTo]; omega
theorem top_ge (l : List Bd) (k n : Nat) (h : k < n) : (l.getD k bd0).r ≤ topTo l n := by
 have h1 : (l.getD k bd0).r ≤ topTo l (k + 1) := by rw [topTo]; omega
 have h2 := top_mono l (k + 1) (n - (k + 1))
 rw [show k + 1 + (n - (k + 1)) = n by omega] at h2
 omega
theorem top_bd (l : List Bd) (n : Nat) (h : ∀ k, k < n → 0 ≤ (l.getD k bd0).r ∧ (l.getD k bd0).r ≤ 10000) : 0 ≤ topTo l n ∧ topTo l n ≤ 10000 := by
 induction n with
 | zero => exact ⟨Int.le_refl _, by rw [topTo]; decide⟩
 | succ n ih =>
  have h1 := ih (fun k hk => h k (by omega))
  have h2 := h n (by omega)
  rw [topTo]
  omega
theorem prog_top (x T : Int) (f r : Nat → Int) (n : Nat) (hr : ∀ k, k < n → r k ≤ T) : ∀ k, k ≤ n → progS x f r n k ≤ progS x f (fun _ => 1) n k * T := by
 intro k
 induction k with
 | zero => intro _; simp [progS]
 | succ k ih =>
  intro hk
  have h1 := ih (by omega)
  have h2 := hr k (by omega)
  have h3 : 0 ≤ widthI x f n k := by unfold widthI pos; omega
  have h4 := Int.mul_le_mul_of_nonneg_left h2 h3
  rw [progS, progS, Int.mul_one, Int.add_mul]
  omega
theorem prog_one (x : Int) (f : Nat → Int) (n : Nat) (hm : ∀ i, i + 1 < n → f i < f (i + 1)) (hn : 0 < n) (h0 : f 0 = 0) (hx : 0 ≤ x) : progS x f (fun _ => 1) n n = x := by
 rw [← ref_prog x f (fun _ => 1) n hm]
 have key : ∀ k, 0 < k → refS x f (fun _ => 1) k = x := by
  intro k hk
  induction k with
  | zero => omega
  | succ k ih =>
   rw [refS]
   by_cases h : k = 0
   ·
    subst h
    simp only [refS, h0, if_true]
    split <;> omega
   ·
    rw [ih (by omega), if_neg h]
    split <;> omega
 exact key n hn
theorem bandS_top (l : List Bd) (hl : bE9 l = 0) (x : Int) (hx : 0 ≤ x) : bandS (·.r) l x ≤ x * topTo l l.length := by
 have g := goodB l hl
 have h1 := prog_top x (topTo l l.length) (fun k => (l.getD k bd0).f) (fun k => (l.getD k bd0).r) l.length (fun k hk => top_ge l k l.length hk) l.length (Nat.le_refl _)
 rw [prog_one x (fun k => (l.getD k bd0).f) l.length g.m g.lo g.f0 hx] at h1
 exact h1
theorem bandS_15 (L : List Bd) (h : bE9 L = 0) (x : Int) (h0 : 0 ≤ x) (h1 : x ≤ 100000000000) : 0 ≤ bandS (·.r) L x ∧ bandS (·.r) L x ≤ 1000000000000000 := by
 have gs := goodB _ h
 have h5 := bandS_top L h x h0
 have h6 := top_bd L _ gs.r
 have h7 : x * topTo L L.length ≤ 100000000000 * 10000 := (mul_bd0 h0 h1 h6.1 h6.2 (by decide)).2
 have h8 := prog_bd x (fun k => (L.getD k bd0).f) (fun k => (L.getD k bd0).r) _ (fun i hi => (gs.f i hi).1) gs.r h1 _ (Nat.le_refl _)
 exact ⟨h8.1, by omega⟩
theorem exV_bd (sch : List (List Bd)) (c : Cd) (tx n d : Int) (hok : ∀ k, k < sch.length → bE9 (sch.getD k []) = 0) (hr : exE sch c tx n d = 0) : 0 ≤ exV sch c tx n d ∧ exV sch c tx n d ≤ 1000000000000000 := by
 unfold exE at hr
 by_cases h1 : fitE sch c = 0
 case neg =>
  rw [if_pos h1] at hr
  exact absurd hr h1
 rw [if_neg (by simpa using h1)] at hr
 obtain ⟨hc0, hs0, hs1, hf0, hf3⟩ := fit_ok h1
 obtain ⟨hp, hv0, hv1, _⟩ := charge_ok hr
 have hBE := hok c.s.toNat (by omega)
 have g := goodB _ hBE
 unfold exV
 generalize chargeV c tx n d = x at *
 by_cases h4 : c.k = 4
 ·
  rw [if_pos h4]; omega
 rw [if_neg h4]
 by_cases h3 : c.k = 3
 ·
  rw [if_pos h3]
  have hf := hf3 h3
  have := g.r c.f.toNat (by omega)
  exact mul_bd0 (A := 100000000000) (B := 10000) hv0 hv1 this.1 this.2 (by decide)
 ·
  rw [if_neg h3, ← scale_val hBE n d x hp]
  exact bandS_15 _ (scale_err hBE n d hp) x hv0 hv1
theorem tdue_e (sch : List (List Bd)) (As Ac Ak : Option Addr) (ns cs nc cc nk ck : Nat) (lim rnd : Int) (s k a f : Int) (al : Bool) (tx n d : Int) (w : World) (hs : ScSl w As ns sch) (r : Int) (hr : Hid (r = exE sch ⟨s, k, a, f, al⟩ tx n d)) (h0 : r ≠ 0) :
  Calls prog 159 #[.agg #[.slice As ns cs, .slice Ac nc cc, .slice Ak nk ck, .int .i64 lim, .int .i64 rnd], .agg #[.int .i64 s, .int .i64 k, .int .i64 a, .int .i64 f, .bool al], .int .i64 tx, .int .i64 n, .int .i64 d] w fun e w' => e = .returned (.tuple #[.int .i64 0, .int .i64 r]) ∧ Below w.heap.size w w' := by
 have hb0 := bA (below1 w (.cells #[.slice As ns cs, .slice Ac nc cc, .slice Ak nk ck, .int .i64 lim, .int .i64 rnd] 26)) (.cells #[.int .i64 s, .int .i64 k, .int .i64 a, .int .i64 f, .bool al] 28)
 have K := hid (texact_e sch As Ac Ak ns cs nc cc nk ck lim rnd s k a f al tx n d _ (hs.below hb0) r hr h0)
 have t : (r != 0) = true := by simpa using h0
 clear hs h0
 go_enter func159, ntmps159
 go_wp2_with fail
 refine K.out.mono ?_
 rintro e w1 ⟨rfl, hb1⟩
 go_wp2_with fail
 go_ret2
 exact ⟨rfl, bT hb0 hb1⟩
theorem tdue_t (sch : List (List Bd)) (As Ac Ak : Option Addr) (ns cs nc cc nk ck : Nat) (lim rnd : Int) (s k a f : Int) (al : Bool) (tx n d : Int) (w : World) (hs : ScSl w As ns sch) (hok : ∀ k, k < ns → bE9 (sch.getD k []) = 0) (hm : modeB rnd = true) (hr : exE sch ⟨s, k, a, f, al⟩ tx n d = 0) :
  Calls prog 159 #[.agg #[.slice As ns cs, .slice Ac nc cc, .slice Ak nk ck, .int .i64 lim, .int .i64 rnd], .agg #[.int .i64 s, .int .i64 k, .int .i64 a, .int .i64 f, .bool al], .int .i64 tx, .int .i64 n, .int .i64 d] w fun e w' => e = .returned (.tuple #[.int .i64 (ro9 (exV sch ⟨s, k, a, f, al⟩ tx n d) 10000 rnd), .int .i64 0]) ∧ Below w.heap.size w w' := by
 have hb0 := bA (below1 w (.cells #[.slice As ns cs, .slice Ac nc cc, .slice Ak nk ck, .int .i64 lim, .int .i64 rnd] 26)) (.cells #[.int .i64 s, .int .i64 k, .int .i64 a, .int .i64 f, .bool al] 28)
 have z := (Blk.mk w 26 #[.slice As ns cs, .slice Ac nc cc, .slice Ak nk ck, .int .i64 lim, .int .i64 rnd]).alloc (.cells #[.int .i64 s, .int .i64 k, .int .i64 a, .int .i64 f, .bool al] 28)
 have K := hid (texact_t sch As Ac Ak ns cs nc cc nk ck lim rnd s k a f al tx n d _ (hs.below hb0) hok hr)
 have hbd := exV_bd sch ⟨s, k, a, f, al⟩ tx n d (fun k hk => hok k (by have := hs.1; omega)) hr
 have K2 := hid (fcoins_t (exV sch ⟨s, k, a, f, al⟩ tx n d) rnd · (exB_iff.2 (by omega)) hm)
 generalize ro9 (exV sch ⟨s, k, a, f, al⟩ tx n d) 10000 rnd = rv at *
 generalize exV sch ⟨s, k, a, f, al⟩ tx n d = ev at *
 clear hs hok hr
 go_enter func159, ntmps159
 go_wp2_with fail
 refine K.out.mono ?_
 rintro e w1 ⟨rfl, hb1⟩
 have a4 := (z.t hb1).cell 4
 go_wp2_with fail
 refine (K2.out _).mono ?_
 rintro e w2 ⟨rfl, hb2⟩
 go_wp2_with fail
 go_ret2
 exact ⟨rfl, bT (bT hb0 hb1) hb2⟩
theorem I64Sl.grown {w w' : World} {A : Option Addr} {n : Nat} {l : List Int} {row : Option Nat} (h : I64Sl w A n l) (hg : w.grownBy w' row) (hn : ∀ b off, A = some ⟨b, off, none⟩ → row ≠ some b) : I64Sl w' A n l := by
 obtain ⟨h1, h2, h3⟩ := h
 refine ⟨h1, h2, fun h0 => ?_⟩
 obtain ⟨b, off, hA, hlt, hc⟩ := h3 h0
 refine ⟨b, off, hA, Nat.lt_of_lt_of_le hlt hg.size, fun k hk => ?_⟩
 rw [← hc k hk]
 exact World.cell?_of_block (hg.block b hlt (fun e => hn b off hA e.symm))
section
variable {P : Program}
end
structure St where
 c : Cd
 x : Int
def st0 : St := ⟨⟨0, 0, 0, 0, false⟩, 0⟩
def stC (z : St) : List Value := [.int .i64 z.c.s, .int .i64 z.c.k, .int .i64 z.c.a, .int .i64 z.c.f, .bool z.c.al, .int .i64 z.x]
theorem stC_len (z : St) : (stC z).length = 6 := rfl
abbrev StSl := RowSl stC 6 st0
def dueV (sch : List (List Bd)) (rnd : Int) (c : Cd) (tx n d : Int) : Int := ro9 (exV sch c tx n d) 10000 rnd
def nextE (sch : List (List Bd)) (rnd nom j : Int) (z : St) (tx ah : Int) : Int :=
 if z.c.al = false then exE sch z.c tx (min j nom) nom
 else if exE sch z.c z.x 1 nom ≠ 0 then exE sch z.c z.x 1 nom
 else if mrB ah = true ∧ mrB (dueV sch rnd z.c z.x 1 nom) = true ∧ mrB (ah + dueV sch rnd z.c z.x 1 nom) = true then 0 else 10
def nextV (sch : List (List Bd)) (rnd nom j : Int) (z : St) (tx ah : Int) : Int :=
 if z.c.al = false then dueV sch rnd z.c tx (min j nom) nom else ah + dueV sch rnd z.c z.x 1 nom
def sumX (l : List St) : Nat → Int
 | 0 => 0
 | k + 1 => sumX l k + (l.getD k st0).x
def dueA (sch : List (List Bd)) (rnd nom : Int) (l : List St) : Nat → Int
 | 0 => 0
 | k + 1 => nextV sch rnd nom ((k : Int) + 1) (l.getD k st0) (sumX l k + (l.getD k st0).x) (dueA sch rnd nom l k)
def yE (sch : List (List Bd)) (rnd nom : Int) (l : List St) (k : Nat) : Int :=
 if mrB (sumX l k) = true ∧ mrB (l.getD k st0).x = true ∧ mrB (sumX l k + (l.getD k st0).x) = true then nextE sch rnd nom ((k : Int) + 1) (l.getD k st0) (sumX l k + (l.getD k st0).x) (dueA sch rnd nom l k) else 10
def dueL (sch : List (List Bd)) (rnd nom : Int) (l : List St) (n : Nat) : List Int := (List.range n).map fun k => dueA sch rnd nom l (k + 1)
theorem dueL_snoc (sch : List (List Bd)) (rnd nom : Int) (l : List St) (n : Nat) : dueL sch rnd nom l (n + 1) = dueL sch rnd nom l n ++ [dueA sch rnd nom l (n + 1)] := by
 simp [dueL, List.range_succ]
theorem tnext_e (sch : List (List Bd)) (As Ac Ak : Option Addr) (ns cs nc cc nk ck : Nat) (lim rnd fq days : Int) (hf : nomI fq ≠ 0) (hd : 0 ≤ days ∧ days ≤ 366) (g : Nat) (j s k a f : Int) (al : Bool) (x tx ah : Int) (w : World) (hs : ScSl w As ns sch) (hok : ∀ k, k < ns → bE9 (sch.getD k []) = 0) (hm : modeB rnd = true) (hy : YrAt w g fq days) (hj : 1 ≤ j ∧ j ≤ cntI fq days) (r : Int) (hr : Hid (r = nextE sch rnd (nomI fq) j ⟨⟨s, k, a, f, al⟩, x⟩ tx ah)) (h0 : r ≠ 0) :
  Calls prog 125 #[.agg #[.slice As ns cs, .slice Ac nc cc, .slice Ak nk ck, .int .i64 lim, .int .i64 rnd], .pointer (some ⟨g, 0, none⟩), .int .i64 j, .agg #[.int .i64 s, .int .i64 k, .int .i64 a, .int .i64 f, .bool al, .int .i64 x], .int .i64 tx, .int .i64 ah] w fun e w' => e = .returned (.tuple #[.int .i64 0, .int .i64 r]) ∧ Below w.heap.size w w' := by
 have t : (r != 0) = true := by simpa using h0
 cases al
 ·
  have hb0 := bA (below1 w (.cells #[.slice As ns cs, .slice Ac nc cc, .slice Ak nk ck, .int .i64 lim, .int .i64 rnd] 26)) (.cells #[.int .i64 s, .int .i64 k, .int .i64 a, .int .i64 f, .bool false, .int .i64 x] 164)
  have z := (Blk.mk w 26 #[.slice As ns cs, .slice Ac nc cc, .slice Ak nk ck, .int .i64 lim, .int .i64 rnd]).alloc (.cells #[.int .i64 s, .int .i64 k, .int .i64 a, .int .i64 f, .bool false, .int .i64 x] 164)
  have y := Blk.mk (w.alloc (.cells #[.slice As ns cs, .slice Ac nc cc, .slice Ak nk ck, .int .i64 lim, .int .i64 rnd] 26)) 164 #[.int .i64 s, .int .i64 k, .int .i64 a, .int .i64 f, .bool false, .int .i64 x]
  rw [World.size_alloc] at y
  have KP := hid (ypart_t fq days j hf hd g _ (hy.t hb0) hj)
  have HS := hid hs
  generalize nomI fq = nf at *
  have hR : r = exE sch ⟨s, k, a, f, false⟩ tx (min j nf) nf := hr.out
  have KD := hid (fun W h => tdue_e sch As Ac Ak ns cs nc cc nk ck lim rnd s k a f false tx (min j nf) nf W h r hR h0)
  clear hs hok hR hr h0 hy hj
  generalize min j nf = mj at *
  go_enter func125, ntmps125
  go_wp2_with fail
  refine KP.out.mono ?_
  rintro e w1 ⟨rfl, hb1⟩
  obtain ⟨p0, p1, p2, p3, p4⟩ := (z.t hb1).all5
  obtain ⟨q0, q1, q2, q3, q4, q5⟩ := (y.t hb1).all6
  go_wp2_with fail
  refine (KD.out _ (HS.out.below (bT hb0 hb1))).mono ?_
  rintro e w2 ⟨rfl, hb2⟩
  go_wp2_with fail
  go_ret2
  exact ⟨rfl, bT (bT hb0 hb1) hb2⟩
 have hb0 := bA (below1 w (.cells #[.slice As ns cs, .slice Ac nc cc, .slice Ak nk ck, .int .i64 lim, .int .i64 rnd] 26)) (.cells #[.int .i64 s, .int .i64 k, .int .i64 a, .int .i64 f, .bool true, .int .i64 x] 164)
 have z := (Blk.mk w 26 #[.slice As ns cs, .slice Ac nc cc, .slice Ak nk ck, .int .i64 lim, .int .i64 rnd]).alloc (.cells #[.int .i64 s, .int .i64 k, .int .i64 a, .int .i64 f, .bool true, .int .i64 x] 164)
 have y := Blk.mk (w.alloc (.cells #[.slice As ns cs, .slice Ac nc cc, .slice Ak nk ck, .int .i64 lim, .int .i64 rnd] 26)) 164 #[.int .i64 s, .int .i64 k, .int .i64 a, .int .i64 f, .bool true, .int .i64 x]
 rw [World.size_alloc] at y
 have KP := hid (ypart_t fq days j hf hd g _ (hy.t hb0) hj)
 have HS := hid hs
 generalize nomI fq = nf at *
 have hR : r = if exE sch ⟨s, k, a, f, true⟩ x 1 nf ≠ 0 then exE sch ⟨s, k, a, f, true⟩ x 1 nf else if mrB ah = true ∧ mrB (dueV sch rnd ⟨s, k, a, f, true⟩ x 1 nf) = true ∧ mrB (ah + dueV sch rnd ⟨s, k, a, f, true⟩ x 1 nf) = true then 0 else 10 := hr.out
 by_cases h1 : exE sch ⟨s, k, a, f, true⟩ x 1 nf = 0
 case neg =>
  rw [if_pos h1] at hR
  have KD := hid (fun W h => tdue_e sch As Ac Ak ns cs nc cc nk ck lim rnd s k a f true x 1 nf W h r hR h0)
  clear hs hok hR hr h0 h1 hy hj
  generalize min j nf = mj at *
  go_enter func125, ntmps125
  go_wp2_with fail
  refine KP.out.mono ?_
  rintro e w1 ⟨rfl, hb1⟩
  obtain ⟨p0, p1, p2, p3, p4⟩ := (z.t hb1).all5
  obtain ⟨q0, q1, q2, q3, q4, q5⟩ := (y.t hb1).all6
  go_wp2_with fail
  refine (KD.out _ (HS.out.below (bT hb0 hb1))).mono ?_
  rintro e w2 ⟨rfl, hb2⟩
  go_wp2_with fail
  go_ret2
  exact ⟨rfl, bT (bT hb0 hb1) hb2⟩
 rw [if_neg (by simpa using h1)] at hR
 have KD := hid (fun W h => tdue_t sch As Ac Ak ns cs nc cc nk ck lim rnd s k a f true x 1 nf W h hok hm h1)
 have hov : ro9 (exV sch ⟨s, k, a, f, true⟩ x 1 nf) 10000 rnd = dueV sch rnd ⟨s, k, a, f, true⟩ x 1 nf := rfl
 rw [hov] at KD
 generalize dueV sch rnd ⟨s, k, a, f, true⟩ x 1 nf = ov at *
 by_cases h2 : mrB ah = true ∧ mrB ov = true ∧ mrB (ah + ov) = true
 ·
  rw [if_pos h2] at hR; exact absurd hR h0
 rw [if_neg h2] at hR
 subst hR
 have KA := hid (add_f ah ov · h2)
 clear hs hok hr h0 h1 hy hj hov h2
 generalize min j nf = mj at *
 go_enter func125, ntmps125
 go_wp2_with fail
 refine KP.out.mono ?_
 rintro e w1 ⟨rfl, hb1⟩
 obtain ⟨p0, p1, p2, p3, p4⟩ := (z.t hb1).all5
 obtain ⟨q0, q1, q2, q3, q4, q5⟩ := (y.t hb1).all6
 go_wp2_with fail
 refine (KD.out _ (HS.out.below (bT hb0 hb1))).mono ?_
 rintro e w2 ⟨rfl, hb2⟩
 go_wp2_with fail
 refine (KA.out _).mono ?_
 rintro e w3 ⟨rfl, hb3⟩
 go_wp2_with fail
 go_ret2
 exact ⟨rfl, bT (bT (bT hb0 hb1) hb2) hb3⟩
theorem tnext_t (sch : List (List Bd)) (As Ac Ak : Option Addr) (ns cs nc cc nk ck : Nat) (lim rnd fq days : Int) (hf : nomI fq ≠ 0) (hd : 0 ≤ days ∧ days ≤ 366) (g : Nat) (j s k a f : Int) (al : Bool) (x tx ah : Int) (w : World) (hs : ScSl w As ns sch) (hok : ∀ k, k < ns → bE9 (sch.getD k []) = 0) (hm : modeB rnd = true) (hy : YrAt w g fq days) (hj : 1 ≤ j ∧ j ≤ cntI fq days) (hr : nextE sch rnd (nomI fq) j ⟨⟨s, k, a, f, al⟩, x⟩ tx ah = 0) (v : Int) (hv : Hid (v = nextV sch rnd (nomI fq) j ⟨⟨s, k, a, f, al⟩, x⟩ tx ah)) :
  Calls prog 125 #[.agg #[.slice As ns cs, .slice Ac nc cc, .slice Ak nk ck, .int .i64 lim, .int .i64 rnd], .pointer (some ⟨g, 0, none⟩), .int .i64 j, .agg #[.int .i64 s, .int .i64 k, .int .i64 a, .int .i64 f, .bool al, .int .i64 x], .int .i64 tx, .int .i64 ah] w fun e w' => e = .returned (.tuple #[.int .i64 v, .int .i64 0]) ∧ Below w.heap.size w w' := by
 cases al
 ·
  have hb0 := bA (below1 w (.cells #[.slice As ns cs, .slice Ac nc cc, .slice Ak nk ck, .int .i64 lim, .int .i64 rnd] 26)) (.cells #[.int .i64 s, .int .i64 k, .int .i64 a, .int .i64 f, .bool false, .int .i64 x] 164)
  have z := (Blk.mk w 26 #[.slice As ns cs, .slice Ac nc cc, .slice Ak nk ck, .int .i64 lim, .int .i64 rnd]).alloc (.cells #[.int .i64 s, .int .i64 k, .int .i64 a, .int .i64 f, .bool false, .int .i64 x] 164)
  have y := Blk.mk (w.alloc (.cells #[.slice As ns cs, .slice Ac nc cc, .slice Ak nk ck, .int .i64 lim, .int .i64 rnd] 26)) 164 #[.int .i64 s, .int .i64 k, .int .i64 a, .int .i64 f, .bool false, .int .i64 x]
  rw [World.size_alloc] at y
  have KP := hid (ypart_t fq days j hf hd g _ (hy.t hb0) hj)
  have HS := hid hs
  generalize nomI fq = nf at *
  have hR : exE sch ⟨s, k, a, f, false⟩ tx (min j nf) nf = 0 := hr
  have KD := hid (fun W h => tdue_t sch As Ac Ak ns cs nc cc nk ck lim rnd s k a f false tx (min j nf) nf W h hok hm hR)
  have hV : v = ro9 (exV sch ⟨s, k, a, f, false⟩ tx (min j nf) nf) 10000 rnd := hv.out
  rw [← hV] at KD
  clear hs hok hR hr hV hv hy hj
  generalize min j nf = mj at *
  go_enter func125, ntmps125
  go_wp2_with fail
  refine KP.out.mono ?_
  rintro e w1 ⟨rfl, hb1⟩
  obtain ⟨p0, p1, p2, p3, p4⟩ := (z.t hb1).all5
  obtain ⟨q0, q1, q2, q3, q4, q5⟩ := (y.t hb1).all6
  go_wp2_with fail
  refine (KD.out _ (HS.out.below (bT hb0 hb1))).mono ?_
  rintro e w2 ⟨rfl, hb2⟩
  go_wp2_with fail
  go_ret2
  exact ⟨rfl, bT (bT hb0 hb1) hb2⟩
 have hb0 := bA (below1 w (.cells #[.slice As ns cs, .slice Ac nc cc, .slice Ak nk ck, .int .i64 lim, .int .i64 rnd] 26)) (.cells #[.int .i64 s, .int .i64 k, .int .i64 a, .int .i64 f, .bool true, .int .i64 x] 164)
 have z := (Blk.mk w 26 #[.slice As ns cs, .slice Ac nc cc, .slice Ak nk ck, .int .i64 lim, .int .i64 rnd]).alloc (.cells #[.int .i64 s, .int .i64 k, .int .i64 a, .int .i64 f, .bool true, .int .i64 x] 164)
 have y := Blk.mk (w.alloc (.cells #[.slice As ns cs, .slice Ac nc cc, .slice Ak nk ck, .int .i64 lim, .int .i64 rnd] 26)) 164 #[.int .i64 s, .int .i64 k, .int .i64 a, .int .i64 f, .bool true, .int .i64 x]
 rw [World.size_alloc] at y
 have KP := hid (ypart_t fq days j hf hd g _ (hy.t hb0) hj)
 have HS := hid hs
 generalize nomI fq = nf at *
 have hR : (if exE sch ⟨s, k, a, f, true⟩ x 1 nf ≠ 0 then exE sch ⟨s, k, a, f, true⟩ x 1 nf else if mrB ah = true ∧ mrB (dueV sch rnd ⟨s, k, a, f, true⟩ x 1 nf) = true ∧ mrB (ah + dueV sch rnd ⟨s, k, a, f, true⟩ x 1 nf) = true then 0 else 10) = 0 := hr
 have hV : v = ah + dueV sch rnd ⟨s, k, a, f, true⟩ x 1 nf := hv.out
 by_cases h1 : exE sch ⟨s, k, a, f, true⟩ x 1 nf = 0
 case neg => rw [if_pos h1] at hR; exact absurd hR h1
 rw [if_neg (by simpa using h1)] at hR
 have KD := hid (fun W h => tdue_t sch As Ac Ak ns cs nc cc nk ck lim rnd s k a f true x 1 nf W h hok hm h1)
 have hov : ro9 (exV sch ⟨s, k, a, f, true⟩ x 1 nf) 10000 rnd = dueV sch rnd ⟨s, k, a, f, true⟩ x 1 nf := rfl
 rw [hov] at KD
 clear hv hr
 generalize dueV sch rnd ⟨s, k, a, f, true⟩ x 1 nf = ov at *
 by_cases h2 : mrB ah = true ∧ mrB ov = true ∧ mrB (ah + ov) = true
 case neg => rw [if_neg h2] at hR; cases hR
 have KA := hid (add_t ah ov · h2.1 h2.2.1 h2.2.2)
 rw [← hV] at KA
 clear hs hok hR h1 hy hj hov h2 hV
 generalize min j nf = mj at *
 go_enter func125, ntmps125
 go_wp2_with fail
 refine KP.out.mono ?_
 rintro e w1 ⟨rfl, hb1⟩
 obtain ⟨p0, p1, p2, p3, p4⟩ := (z.t hb1).all5
 obtain ⟨q0, q1, q2, q3, q4, q5⟩ := (y.t hb1).all6
 go_wp2_with fail
 refine (KD.out _ (HS.out.below (bT hb0 hb1))).mono ?_
 rintro e w2 ⟨rfl, hb2⟩
 go_wp2_with fail
 refine (KA.out _).mono ?_
 rintro e w3 ⟨rfl, hb3⟩
 go_wp2_with fail
 go_ret2
 exact ⟨rfl, bT (bT (bT hb0 hb1) hb2) hb3⟩
def TYearR (sch : List (List Bd)) (rnd nom : Int) (l : List St) (n : Nat) (w : World) (e : Ending) (w' : World) : Prop :=
  (((∀ k, k < n → yE sch rnd nom l k = 0) ∧ ∃ v, e = .returned (.tuple #[v, .int .i64 0]) ∧ OwnI w' w.heap.size v n (dueL sch rnd nom l n)) ∨
   (∃ k, k < n ∧ (∀ j, j < k → yE sch rnd nom l j = 0) ∧ yE sch rnd nom l k ≠ 0 ∧ e = .returned (.tuple #[.slice none 0 0, .int .i64 (yE sch rnd nom l k)]))) ∧ Below w.heap.size w w'
theorem tyear_c (sch : List (List Bd)) (As Ac Ak A : Option Addr) (ns cs nc cc nk ck n c : Nat) (lim rnd fq days : Int) (hf : nomI fq ≠ 0) (hd : 0 ≤ days ∧ days ≤ 366) (g : Nat) (l : List St) (w : World) (hs : ScSl w As ns sch) (hok : ∀ k, k < ns → bE9 (sch.getD k []) = 0) (hm : modeB rnd = true) (hy : YrAt w g fq days) (hl : StSl w A n l) (hn : (n : Int) ≤ cntI fq days) (hn2 : n ≤ 1000) :
  Calls prog 81 #[.agg #[.slice As ns cs, .slice Ac nc cc, .slice Ak nk ck, .int .i64 lim, .int .i64 rnd], .pointer (some ⟨g, 0, none⟩), .slice A n c] w (TYearR sch rnd (nomI fq) l n w) := by
 have hb0 := below1 w (.cells #[.slice As ns cs, .slice Ac nc cc, .slice Ak nk ck, .int .i64 lim, .int .i64 rnd] 26)
 have z0 := Blk.mk w 26 #[.slice As ns cs, .slice Ac nc cc, .slice Ak nk ck, .int .i64 lim, .int .i64 rnd]
 have KC := hid (count_c fq days hf hd g _ (hy.t hb0))
 have KE := hid (fun j s k a f al x tx ah W h1 h2 h3 r hr h0 => tnext_e sch As Ac Ak ns cs nc cc nk ck lim rnd fq days hf hd g j s k a f al x tx ah W h1 hok hm h2 h3 r hr h0)
 have KT := hid (fun j s k a f al x tx ah W h1 h2 h3 hr v hv => tnext_t sch As Ac Ak ns cs nc cc nk ck lim rnd fq days hf hd g j s k a f al x tx ah W h1 hok hm h2 h3 hr v hv)
 generalize nomI fq = nf at *
 generalize cntI fq days = m at *
 have t : decide (m < (n : Int)) = false := by simpa using hn
 have HS := hid hs
 have HL := hid hl
 have HY := hid hy
 have HN := hid hn
 clear hs hok hy hl hm hf
 go_enter func81, ntmps81
 go_wp2_with fail
 refine KC.out.mono ?_
 rintro e w1 ⟨rfl, rfl⟩
 go_wp2_with fail
 go_loopw [8, 9, 10, 21] (fun v tx du i wr => ∃ k : Nat, k ≤ n ∧ i = .int .i64 k ∧ tx = .int .i64 (sumX l k) ∧ du = .int .i64 (dueA sch rnd nf l k) ∧ Hid (∀ j, j < k → yE sch rnd nf l j = 0) ∧ OwnI wr w.heap.size v k (dueL sch rnd nf l k) ∧ Below w.heap.size w wr ∧ Blk wr w.heap.size 26 #[.slice As ns cs, .slice Ac nc cc, .slice Ak nk ck, .int .i64 lim, .int .i64 rnd]) (fun _ _ _ i _ => n - (intOf i).toNat)
 case atStart => exact ⟨0, Nat.zero_le _, rfl, rfl, rfl, fun j hj => absurd hj (by omega), ⟨rfl, World.ownsRow_nil _ _ _ _⟩, hb0, z0⟩
 case round =>
  obtain ⟨k, hk', rfl, rfl, rfl, hM, ⟨ho1, ho⟩, hbl, z⟩ := hrel
  have HO1 := hid ho1
  clear ho1
  by_cases hk : k < n
  case neg =>
   obtain rfl : k = n := by omega
   have HO := hid ho
   clear ho
   go_wp2_with fail
   go_ret2
   exact ⟨Or.inl ⟨hM.out, _, rfl, HO1.out, HO.out⟩, hbl⟩
  obtain ⟨b, off, rfl, hlt, hat⟩ := (HL.out.below hbl).2.2 (by omega)
  have hc := hat k hk
  have HYE : Hid (yE sch rnd nf l k = if mrB (sumX l k) = true ∧ mrB (l.getD k st0).x = true ∧ mrB (sumX l k + (l.getD k st0).x) = true then nextE sch rnd nf ((k : Int) + 1) (l.getD k st0) (sumX l k + (l.getD k st0).x) (dueA sch rnd nf l k) else 10) := rfl
  have HDA : Hid (dueA sch rnd nf l (k + 1) = nextV sch rnd nf ((k : Int) + 1) (l.getD k st0) (sumX l k + (l.getD k st0).x) (dueA sch rnd nf l k)) := rfl
  have HSX : Hid (sumX l (k + 1) = sumX l k + (l.getD k st0).x) := rfl
  have HDL := hid (dueL_snoc sch rnd nf l k)
  clear hat
  generalize sumX l k = sx at *
  generalize dueA sch rnd nf l k = da at *
  generalize dueL sch rnd nf l k = dl at *
  generalize l.getD k st0 = zz at *
  obtain ⟨⟨s, kd, a, f, al⟩, x⟩ := zz
  obtain ⟨c0, c1, c2, c3, c4, c5⟩ : wr.cell? ⟨b, off + k * 6, none⟩ = some (.int .i64 s) ∧ wr.cell? ⟨b, off + k * 6 + 1, none⟩ = some (.int .i64 kd) ∧ wr.cell? ⟨b, off + k * 6 + 2, none⟩ = some (.int .i64 a) ∧ wr.cell? ⟨b, off + k * 6 + 3, none⟩ = some (.int .i64 f) ∧ wr.cell? ⟨b, off + k * 6 + 4, none⟩ = some (.bool al) ∧ wr.cell? ⟨b, off + k * 6 + 5, none⟩ = some (.int .i64 x) := ⟨hc 0 _ rfl, hc 1 _ rfl, hc 2 _ rfl, hc 3 _ rfl, hc 4 _ rfl, hc 5 _ rfl⟩
  dsimp only at HYE HDA HSX
  have z1 := z.alloc (.cells #[.int .i64 s, .int .i64 kd, .int .i64 a, .int .i64 f, .bool al, .int .i64 x] 164)
  have y1 := Blk.mk wr 164 #[.int .i64 s, .int .i64 kd, .int .i64 a, .int .i64 f, .bool al, .int .i64 x]
  have hb1 := bA hbl (.cells #[.int .i64 s, .int .i64 kd, .int .i64 a, .int .i64 f, .bool al, .int .i64 x] 164)
  have HO := hid (ho.alloc (.cells #[.int .i64 s, .int .i64 kd, .int .i64 a, .int .i64 f, .bool al, .int .i64 x] 164))
  have hsz := hbl.size
  clear ho hc
  by_cases hA : mrB sx = true ∧ mrB x = true ∧ mrB (sx + x) = true
  case neg =>
   have hE : yE sch rnd nf l k = 10 := HYE.out.trans (if_neg hA)
   have KA := hid (add_f sx x · hA)
   have HE := hid hE
   clear hA hE
   go_wp2_with fail
   refine (KA.out _).mono ?_
   rintro e w2 ⟨rfl, hb2⟩
   go_wp2_with fail
   go_ret2
   exact ⟨Or.inr ⟨k, hk, hM.out, by rw [HE.out]; decide, by rw [HE.out]; rfl⟩, bT hb1 hb2⟩
  have HYE2 : Hid (yE sch rnd nf l k = nextE sch rnd nf ((k : Int) + 1) ⟨⟨s, kd, a, f, al⟩, x⟩ (sx + x) da) := HYE.out.trans (if_pos hA)
  have KA := hid (add_t sx x · hA.1 hA.2.1 hA.2.2)
  have hw : IntKind.i64.wrap ((k : Int) + 1) = (k : Int) + 1 := by rw [IntKind.wrap_i64]; omega
  have hj : 1 ≤ (k : Int) + 1 ∧ (k : Int) + 1 ≤ m := by have := HN.out; omega
  clear hA
  by_cases hE : yE sch rnd nf l k = 0
  case neg =>
   have KE1 := hid (fun W h1 h2 => KE.out ((k : Int) + 1) s kd a f al x (sx + x) da W h1 h2 hj _ HYE2 hE)
   have HE := hid hE
   have t2 : (yE sch rnd nf l k != 0) = true := by simpa using hE
   clear hE hj
   go_wp2_with fail
   refine (KA.out _).mono ?_
   rintro e w2 ⟨rfl, hb2⟩
   have hb3 := bT hb1 hb2
   obtain ⟨p0, p1, p2, p3, p4⟩ := (z1.t hb2).all5
   obtain ⟨q0, q1, q2, q3, q4, q5⟩ := (y1.t hb2).all6
   go_wp2_with fail
   refine (KE1.out _ (HS.out.below hb3) (HY.out.t hb3)).mono ?_
   rintro e w3 ⟨rfl, hb4⟩
   go_wp2_with fail
   go_ret2
   exact ⟨Or.inr ⟨k, hk, hM.out, HE.out, rfl⟩, bT hb3 hb4⟩
  have KT1 := hid (fun W h1 h2 => KT.out ((k : Int) + 1) s kd a f al x (sx + x) da W h1 h2 hj (HYE2.out.symm.trans hE) _ HDA)
  have HE := hid hE
  clear hE hj
  go_wp2_with fail
  refine (KA.out _).mono ?_
  rintro e w2 ⟨rfl, hb2⟩
  have hb3 := bT hb1 hb2
  have z2 := z1.t hb2
  obtain ⟨p0, p1, p2, p3, p4⟩ := z2.all5
  obtain ⟨q0, q1, q2, q3, q4, q5⟩ := (y1.t hb2).all6
  go_wp2_with fail
  refine (KT1.out _ (HS.out.below hb3) (HY.out.t hb3)).mono ?_
  rintro e w3 ⟨rfl, hb4⟩
  have z3 := z2.t hb4
  have hb5 := bT hb3 hb4
  have HO2 := hid (oB9 (oB9 HO.out hb2) hb4)
  have hs5 := hb5.size
  generalize hdn : dueA sch rnd nf l (k + 1) = dn at *
  have HDN := hid hdn
  clear hdn
  go_wp2_with (at_builtin; refine wa9 _ rfl _ _ 165 rfl 2 _ 1 8 underlying165 info_i64 rfl (by decide) rfl HO2.out _ rfl (by first | rfl | simp) rfl (by simp [Value.oneCell']) (by omega) (by omega) (by first | omega | (simp; omega)) ?_; intro v' w6 ho' hg)
  go_roundw
  case rel =>
   refine ⟨k + 1, by omega, by go_num, ?_, ?_, fun j hj => ?_, ⟨?_, ?_⟩, bP hb5 HO2.out hg (Nat.le_refl _), z3.grown hg (own_blk HO2.out z3 (by decide))⟩
   ·
    rw [HSX.out]
   ·
    rw [HDN.out]
   ·
    rcases (by omega : j = k ∨ j < k) with rfl | hj
    ·
     exact HE.out
    ·
     exact hM.out j hj
   ·
    rw [HDL.out]; simp [← HO1.out]
   ·
    rw [HDL.out]; simpa using ho'
  case measure => simp [intOf]; omega
def cd0 : Cd := ⟨0, 0, 0, 0, false⟩
end Go.Proofs.YtiaabmhjkoohmaaGreat
namespace Go.Proofs.YtiaabmhjkoohmaaGreat
set_option maxRecDepth 100000
set_option maxHeartbeats 25600000
set_option linter.unusedVariables false
set_option linter.unusedSimpArgs false
open Go.ChangeShapes Go.WideShapes Go.Deep Go.RowKit
structure Op where
 k : Int
 l : List El
 c : Cd
 id : Int
 pr : Int
 am : Int
 ra : Int
 tt : Int
 n : Int
structure OpP where
 z : Op
 A : Option Addr
 m : Nat
 d : Nat
def op0 : OpP := ⟨⟨0, [], cd0, 0, 0, 0, 0, 0, 0⟩, none, 0, 0⟩
def opC (q : OpP) : List Value := [.int .i64 q.z.k, .slice q.A q.m q.d, .int .i64 q.z.c.s, .int .i64 q.z.c.k, .int .i64 q.z.c.a, .int .i64 q.z.c.f, .bool q.z.c.al, .int .i64 q.z.id, .int .i64 q.z.pr, .int .i64 q.z.am, .int .i64 q.z.ra, .int .i64 q.z.tt, .int .i64 q.z.n]
def OpSl (w : World) (A : Option Addr) (n : Nat) (l : List OpP) : Prop := RowSl opC 13 op0 w A n l ∧ ∀ k, k < l.length → ElSl w (l.getD k op0).A (l.getD k op0).m (l.getD k op0).z.l
theorem OpSl.below {w w' : World} {A : Option Addr} {n : Nat} {l : List OpP} (h : OpSl w A n l) (hb : Below w.heap.size w w') : OpSl w' A n l := ⟨h.1.below hb, fun k hk => (h.2 k hk).below hb⟩
section
variable {H : Type} {enc : TypeId × Value → H} {w : World}
theorem open_opR_v {cs : List Value} {m : Nat} {x : DataW H × List MemPlace} (hl : cs.length = 13) (h : DataW.trod enc Tryz.prog w 0 (fun _ => true) true m 39 cs = some x) :
  ∃ a : OpP, cs = opC a ∧ ElSl w a.A a.m a.z.l := by
 obtain ⟨xs, n, _, _, _, hxs, hf⟩ := DataW.trod_struct Tryz.underlying39 h
 have f0 : DataW.trod enc Tryz.prog w 0 (fun _ => true) true n 3 ((cs.drop 0).take (Tryz.prog.cellsOf 3)) = xs[0]? := hf 0 _ rfl
 have f1 : DataW.trod enc Tryz.prog w 0 (fun _ => true) true n 35 ((cs.drop 1).take (Tryz.prog.cellsOf 35)) = xs[1]? := hf 1 _ rfl
 have f2 : DataW.trod enc Tryz.prog w 0 (fun _ => true) true n 28 ((cs.drop 2).take (Tryz.prog.cellsOf 28)) = xs[2]? := hf 2 _ rfl
 have f3 : DataW.trod enc Tryz.prog w 0 (fun _ => true) true n 37 ((cs.drop 7).take (Tryz.prog.cellsOf 37)) = xs[3]? := hf 3 _ rfl
 have f4 : DataW.trod enc Tryz.prog w 0 (fun _ => true) true n 2 ((cs.drop 12).take (Tryz.prog.cellsOf 2)) = xs[4]? := hf 4 _ rfl
 have hx2 : xs.length = 5 := by simpa using hxs
 rw [List.getElem?_eq_getElem (by omega)] at f0 f1 f2 f3 f4
 match cs, hl with
 | [a0, a1, a2, a3, a4, a5, a6, a7, a8, a9, a10, a11, a12], _ =>
  have g0 : DataW.trod enc Tryz.prog w 0 (fun _ => true) true n 3 [a0] = some (xs[0]'(by omega)) := by
   rw [show Tryz.prog.cellsOf 3 = 1 from by kernel_rfl] at f0
   exact f0
  have g1 : DataW.trod enc Tryz.prog w 0 (fun _ => true) true n 35 [a1] = some (xs[1]'(by omega)) := by
   rw [show Tryz.prog.cellsOf 35 = 1 from by kernel_rfl] at f1
   exact f1
  have g2 : DataW.trod enc Tryz.prog w 0 (fun _ => true) true n 28 [a2, a3, a4, a5, a6] = some (xs[2]'(by omega)) := by
   rw [show Tryz.prog.cellsOf 28 = 5 from by kernel_rfl] at f2
   exact f2
  have g3 : DataW.trod enc Tryz.prog w 0 (fun _ => true) true n 37 [a7, a8, a9, a10, a11] = some (xs[3]'(by omega)) := by
   rw [show Tryz.prog.cellsOf 37 = 5 from by kernel_rfl] at f3
   exact f3
  have g4 : DataW.trod enc Tryz.prog w 0 (fun _ => true) true n 2 [a12] = some (xs[4]'(by omega)) := by
   rw [show Tryz.prog.cellsOf 2 = 1 from by kernel_rfl] at f4
   exact f4
  obtain ⟨q0, rfl, _⟩ := cell_int Tryz.underlying3 g0
  obtain ⟨Ae, me, de, le, rfl, he⟩ := open_els_t g1
  obtain ⟨q12, rfl, _⟩ := cell_int Tryz.underlying2 g4
  have hf2 := struct_cells Tryz.underlying28 (by kernel_rfl) rfl g2
  have hf3 := struct_cells Tryz.underlying37 (by kernel_rfl) rfl g3
  obtain ⟨u0, n0, y0, e0, t0⟩ := hf2 0 _ rfl
  obtain ⟨u1, n1, y1, e1, t1⟩ := hf2 1 _ rfl
  obtain ⟨u2, n2, y2, e2, t2⟩ := hf2 2 _ rfl
  obtain ⟨u3, n3, y3, e3, t3⟩ := hf2 3 _ rfl
  obtain ⟨u4, n4, y4, e4, t4⟩ := hf2 4 _ rfl
  obtain ⟨v0, m0, z0, d0, s0⟩ := hf3 0 _ rfl
  obtain ⟨v1, m1, z1, d1, s1⟩ := hf3 1 _ rfl
  obtain ⟨v2, m2, z2, d2, s2⟩ := hf3 2 _ rfl
  obtain ⟨v3, m3, z3, d3, s3⟩ := hf3 3 _ rfl
  obtain ⟨v4, m4, z4, d4, s4⟩ := hf3 4 _ rfl
  obtain ⟨c0, rfl, _⟩ := cell_int Tryz.underlying3 t0
  obtain ⟨c1, rfl, _⟩ := cell_int Tryz.underlying3 t1
  obtain ⟨c2, rfl, _⟩ := cell_int Tryz.underlying2 t2
  obtain ⟨c3, rfl, _⟩ := cell_int Tryz.underlying3 t3
  obtain ⟨c4, rfl⟩ := cell_bool Tryz.underlying4 t4
  obtain ⟨o0, rfl, _⟩ := cell_int Tryz.underlying3 s0
  obtain ⟨o1, rfl, _⟩ := cell_int Tryz.underlying3 s1
  obtain ⟨o2, rfl, _⟩ := cell_int Tryz.underlying2 s2
  obtain ⟨o3, rfl, _⟩ := cell_int Tryz.underlying3 s3
  obtain ⟨o4, rfl, _⟩ := cell_int Tryz.underlying2 s4
  simp only [List.getElem?_cons_zero, List.getElem?_cons_succ, Option.some.injEq] at e0 e1 e2 e3 e4 d0 d1 d2 d3 d4
  subst e0; subst d0
  subst e1; subst d1
  subst e2; subst d2
  subst e3; subst d3
  subst e4; subst d4
  exact ⟨⟨⟨q0, le, ⟨c0, c1, c2, c3, c4⟩, o0, o1, o2, o3, o4, q12⟩, Ae, me, de⟩, rfl, he⟩
theorem open_opR_t {b off : Nat} {cs : List Value} {m : Nat} {x : DataW H × List MemPlace} (hl : cs.length = 13) (hc : CellsAt w b off cs) (h : DataW.trod enc Tryz.prog w 0 (fun _ => true) true m 39 cs = some x) :
  ∃ a : OpP, RowAt opC w b off a ∧ ElSl w a.A a.m a.z.l := by
 obtain ⟨a, rfl, he⟩ := open_opR_v hl h
 exact ⟨a, hc, he⟩
theorem open_opA {r : Reach} {b0 : Nat} {v : Value} {d : DataW H} {p : List MemPlace} (hv : Value.okWide Tryz.prog w r b0 39 v) (h : DataW.Trod enc Tryz.prog w 0 (fun _ => true) true 39 v d p) :
  ∃ a : OpP, v = .agg (opC a).toArray ∧ ElSl w a.A a.m a.z.l := by
 obtain ⟨l, m, rfl, hl, hm⟩ := trod_struct_arg Tryz.underlying39 hv h
 rw [show Tryz.prog.cellsOf 39 = 13 from by kernel_rfl] at hl
 obtain ⟨a, rfl, he⟩ := open_opR_v hl hm
 exact ⟨a, rfl, he⟩
theorem open_opsR {r : Reach} {b0 : Nat} {v : Value} {d : DataW H} {p : List MemPlace} (hv : Value.okWide Tryz.prog w r b0 29 v) (h : DataW.Trod enc Tryz.prog w 0 (fun _ => true) true 29 v d p) :
  ∃ A n c l, v = .slice A n c ∧ OpSl w A n l := by
 obtain ⟨m, hm⟩ := trod_slice_arg Tryz.underlying29 hv h
 obtain ⟨A, n, c, l, rfl, _, _, h1, h2, h3⟩ := open_sl (fun w b off a => RowAt opC w b off a ∧ ElSl w a.A a.m a.z.l) 13 op0 (by decide) Tryz.underlying29 (by kernel_rfl) (fun b off cs m x hb hl hc hx => open_opR_t hl hc hx) hm
 refine ⟨A, n, c, l, rfl, ⟨h1, h2, fun h0 => ?_⟩, fun k hk => ?_⟩
 ·
  obtain ⟨b, off, hA, hlt, hat⟩ := h3 h0
  exact ⟨b, off, hA, hlt, fun k hk => (hat k hk).1⟩
 ·
  obtain ⟨b, off, hA, hlt, hat⟩ := h3 (by omega)
  exact (hat k (by omega)).2
end
end Go.Proofs.YtiaabmhjkoohmaaGreat
namespace Go.Proofs.YtiaabmhjkoohmaaGreat
set_option maxRecDepth 100000
set_option maxHeartbeats 25600000
set_option linter.unusedVariables false
set_option linter.unusedSimpArgs false
open Go.RowKit Tryz
open Lib (hid)
theorem pcoins_t (x y : Nat) (a b mode : Int) (hx : Rep x a) (hy : Rep y b) (ha : in53 a = true) (hb : in53 b = true) (hm : modeB mode = true) (w : World) :
  Calls prog 200 #[.complex .f64 x y, .int .i64 mode] w fun e w' => e = .returned (.tuple #[.agg #[.int .i64 (ro9 a 10000 mode), .int .i64 (ro9 b 10000 mode)], .int .i64 0]) ∧ Below w.heap.size w w' := by
 have ha' := i53.1 ha
 have hb' := i53.1 hb
 have HA := hid (round_c a 10000 mode · (by omega) (by omega) (by decide) (by decide) hm)
 have HB := hid (round_c b 10000 mode · (by omega) (by omega) (by decide) (by decide) hm)
 generalize ro9 a 10000 mode = ra at *
 generalize ro9 b 10000 mode = rb at *
 go_enter func200, ntmps200
 go_wp2_with fail
 refine (sides_c x y a b hx hy ha hb _).mono ?_
 rintro e w' ⟨rfl, rfl⟩
 go_wp2_with fail
 refine (HA.out _).mono ?_
 rintro e w1 ⟨rfl, hb1⟩
 obtain ⟨hc1, hf1⟩ := bcell hb1
 have hz1 : w.heap.size < w1.heap.size := by have := hb1.size; simp at this; omega
 go_wp2_with fail
 refine (HB.out _).mono ?_
 rintro e w2 ⟨rfl, hb2⟩
 obtain ⟨hc2, hf2⟩ := bcell hb2
 go_wp2_with fail
 exact bodyPost_ret (v := .tuple #[.agg #[.int .i64 ra, .int .i64 rb], .int .i64 0]) (by simp [results, results200, go_sem, hc1, hc2, hz1]) rfl ⟨rfl, (((below1 _ _).trans ((hb1.mono (by simp)).trans (hb2.mono (by omega)))).setCell (Nat.le_refl _) _).setCell (Nat.le_refl _) _⟩
structure Sh where
 a : Int
 b : Int
def sh0 : Sh := ⟨0, 0⟩
def SharesAt (w : World) (b off : Nat) (l : List Sh) : Prop := ∀ k, k < l.length → w.cell? ⟨b, off + k * 2, none⟩ = some (.int .i64 (l.getD k sh0).a) ∧ w.cell? ⟨b, off + k * 2 + 1, none⟩ = some (.int .i64 (l.getD k sh0).b)
def Sh9 (w : World) (A : Option Addr) (n : Nat) (l : List Sh) : Prop := n = l.length ∧ n ≤ 9223372036854775807 ∧ (0 < n → ∃ b off, A = some ⟨b, off, none⟩ ∧ b < w.heap.size ∧ SharesAt w b off l)
def sumTo (f : Nat → Int) : Nat → Int
 | 0 => 0
 | k + 1 => sumTo f k + f k
def totAt (l : List Sh) (k : Nat) : Bool := mrB (l.getD k sh0).a && mrB (l.getD k sh0).b && mrB (sumTo (fun i => (l.getD i sh0).a) (k + 1)) && mrB (sumTo (fun i => (l.getD i sh0).b) (k + 1))
def Tot (l : List Sh) (n : Nat) (w : World) (x : Ending) (w' : World) : Prop :=
  (((∀ k, k < n → totAt l k = true) ∧ x = .returned (.tuple #[.agg #[.int .i64 (sumTo (fun i => (l.getD i sh0).a) n), .int .i64 (sumTo (fun i => (l.getD i sh0).b) n)], .int .i64 0])) ∨
   ((∃ k, k < n ∧ totAt l k = false) ∧ x = .returned (.tuple #[.agg #[.int .i64 0, .int .i64 0], .int .i64 10]))) ∧ Below w.heap.size w w'
theorem total_c (l : List Sh) (A : Option Addr) (n c : Nat) (w : World) (h : Sh9 w A n l) : Calls prog 141 #[.slice A n c] w (Tot l n w) := by
  obtain ⟨hn, hm, hc⟩ := h
  have Hn := hid hn
  clear hn
  have HC := hid hc
  clear hc
  go_enter func141, ntmps141
  go_wp2
  go_loopw [12] (fun i wr => ∃ (k : Nat) (sa sb : Int), k ≤ n ∧ i = .int .i64 k ∧ Hid (sa = sumTo (fun i => (l.getD i sh0).a) k) ∧ Hid (sb = sumTo (fun i => (l.getD i sh0).b) k) ∧ Hid (∀ j, j < k → totAt l j = true) ∧ mrB sa = true ∧ mrB sb = true ∧
      Below w.heap.size w wr ∧ Blk wr w.heap.size 79 #[.int .i64 0, .int .i64 0] ∧ Blk wr (w.heap.size + 1) 79 #[.int .i64 sa, .int .i64 sb]) (fun i _ => n - (intOf i).toNat)
  case atStart => exact ⟨0, 0, 0, Nat.zero_le _, rfl, rfl, rfl, fun j hj => by omega, by decide, by decide, (below1 _ _).alloc (by simp) _, (Blk.mk _ _ _).alloc _, by
    have := Blk.mk (w.alloc (.cells #[.int .i64 0, .int .i64 0] 79)) 79 #[.int .i64 0, .int .i64 0]
    rwa [World.size_alloc] at this⟩
  case round =>
    obtain ⟨k, sa, sb, hk', rfl, hsa, hsb, hok, ma, mb, hbl, z0, z1⟩ := hrel
    obtain ⟨r0, r1, f0, f1⟩ := z0.all2
    obtain ⟨a0, a1, e0, e1⟩ := z1.all2
    have hl1 := z1.lt
    by_cases hk : k < n
    case neg =>
      have ekn : n = k := by omega
      go_wp2_with fail
      exact bodyPost_ret (v := .tuple #[.agg #[.int .i64 sa, .int .i64 sb], .int .i64 0]) (by simp [results, results141, go_sem, r0, r1]) rfl ⟨Or.inl ⟨by rw [ekn]; exact hok.out, by rw [ekn, hsa.out, hsb.out]⟩, (hbl.setCell (Nat.le_refl _) _).setCell (Nat.le_refl _) _⟩
    obtain ⟨b, off, rfl, hb, hc⟩ := HC.out (by omega)
    obtain ⟨c0, c1⟩ := hc k (by rw [← Hn.out]; exact hk)
    rw [← hbl.cell (p := ⟨b, _, none⟩) hb] at c0 c1
    have htk : totAt l k = (mrB (l.getD k sh0).a && mrB (l.getD k sh0).b && mrB (sa + (l.getD k sh0).a) && mrB (sb + (l.getD k sh0).b)) := by
      rw [totAt, sumTo, sumTo, ← hsa.out, ← hsb.out]
    have n1 : Hid (sa + (l.getD k sh0).a = sumTo (fun i => (l.getD i sh0).a) (k + 1)) := by unfold Hid; rw [sumTo, ← hsa.out]
    have n2 : Hid (sb + (l.getD k sh0).b = sumTo (fun i => (l.getD i sh0).b) (k + 1)) := by unfold Hid; rw [sumTo, ← hsb.out]
    have HT := hid htk
    clear htk hc
    have hsz := hbl.size
    generalize (l.getD k sh0).a = x at *
    generalize (l.getD k sh0).b = y at *
    by_cases o1 : mrB sa = true ∧ mrB x = true ∧ mrB (sa + x) = true
    case neg =>
      have hbad : totAt l k = false := by
        rw [HT.out]
        cases h1 : mrB x <;> cases h2 : mrB (sa + x) <;> simp [h1, h2]
        exact absurd ⟨ma, h1, h2⟩ o1
      have HBad := hid hbad
      have O1 := hid o1
      clear hbad o1
      go_wp2_with fail
      refine (add_f sa x _ O1.out).mono ?_
      rintro e w1 ⟨rfl, hb1⟩
      have y0 := ((z0.alloc _).below hb1 (by simp; omega))
      have y1 := ((z1.alloc _).below hb1 (by simp; omega))
      have ys := ((Blk.mk wr _ _).below hb1 (by simp))
      obtain ⟨p1, p2, p3, p4⟩ := y0.all2
      obtain ⟨p5, p6, p7, p8⟩ := y1.all2
      obtain ⟨p9, p10, p11, p12⟩ := ys.all2
      have bl1 : Below w.heap.size w w1 := (hbl.alloc hbl.size _).trans (hb1.mono (by simp; omega))
      have hbad := HBad.out
      clear HBad
      have HBad := hid hbad
      clear hbad
      go_wp2_with fail
      exact bodyPost_ret (v := .tuple #[.agg #[.int .i64 0, .int .i64 0], .int .i64 10]) (by simp [results, results141, go_sem, p1, p2]) rfl ⟨Or.inr ⟨⟨k, hk, HBad.out⟩, rfl⟩, (bl1.setCell (Nat.le_refl _) _).setCell (Nat.le_refl _) _⟩
    obtain ⟨o1a, o1b, o1c⟩ := o1
    by_cases o2 : mrB sb = true ∧ mrB y = true ∧ mrB (sb + y) = true
    case neg =>
      have hbad : totAt l k = false := by
        rw [HT.out]
        cases h1 : mrB y <;> cases h2 : mrB (sb + y) <;> simp [h1, h2]
        exact absurd ⟨mb, h1, h2⟩ o2
      have HBad := hid hbad
      have O2 := hid o2
      clear hbad o2
      go_wp2_with fail
      refine (add_t sa x _ o1a o1b o1c).mono ?_
      rintro e w1 ⟨rfl, hb1⟩
      have y0 := ((z0.alloc _).below hb1 (by simp; omega))
      have y1 := ((z1.alloc _).below hb1 (by simp; omega))
      have ys := ((Blk.mk wr _ _).below hb1 (by simp))
      obtain ⟨p1, p2, p3, p4⟩ := y0.all2
      obtain ⟨p5, p6, p7, p8⟩ := y1.all2
      obtain ⟨p9, p10, p11, p12⟩ := ys.all2
      have bl1 : Below w.heap.size w w1 := (hbl.alloc hbl.size _).trans (hb1.mono (by simp; omega))
      go_wp2_with fail
      refine (add_f sb y _ O2.out).mono ?_
      rintro e w2 ⟨rfl, hb2⟩
      have v0 := y0.below hb2 y0.lt
      have v1 := y1.below hb2 y1.lt
      obtain ⟨q1, q2, q3, q4⟩ := v0.all2
      obtain ⟨q5, q6, q7, q8⟩ := v1.all2
      have bl2 : Below w.heap.size w w2 := bl1.trans (hb2.mono bl1.size)
      go_wp2_with fail
      exact bodyPost_ret (v := .tuple #[.agg #[.int .i64 0, .int .i64 0], .int .i64 10]) (by simp [results, results141, go_sem, q1, q2]) rfl ⟨Or.inr ⟨⟨k, hk, HBad.out⟩, rfl⟩, (bl2.setCell (Nat.le_refl _) _).setCell (Nat.le_refl _) _⟩
    obtain ⟨o2a, o2b, o2c⟩ := o2
    have hgood : Hid (totAt l k = true) := by
      unfold Hid
      rw [HT.out]
      simp [o1b, o1c, o2b, o2c]
    go_wp2_with fail
    refine (add_t sa x _ o1a o1b o1c).mono ?_
    rintro e w1 ⟨rfl, hb1⟩
    have y0 := ((z0.alloc _).below hb1 (by simp; omega))
    have y1 := ((z1.alloc _).below hb1 (by simp; omega))
    have ys := ((Blk.mk wr _ _).below hb1 (by simp))
    obtain ⟨p1, p2, p3, p4⟩ := y0.all2
    obtain ⟨p5, p6, p7, p8⟩ := y1.all2
    obtain ⟨p9, p10, p11, p12⟩ := ys.all2
    have bl1 : Below w.heap.size w w1 := (hbl.alloc hbl.size _).trans (hb1.mono (by simp; omega))
    go_wp2_with fail
    refine (add_t sb y _ o2a o2b o2c).mono ?_
    rintro e w2 ⟨rfl, hb2⟩
    have v0 := y0.below hb2 y0.lt
    have v1 := y1.below hb2 y1.lt
    obtain ⟨q1, q2, q3, q4⟩ := v0.all2
    obtain ⟨q5, q6, q7, q8⟩ := v1.all2
    have bl2 : Below w.heap.size w w2 := bl1.trans (hb2.mono bl1.size)
    go_wp2_with fail
    go_roundw
    case rel =>
      exact ⟨k + 1, _, _, by omega, by go_num, n1, n2, fun j hj => by
        rcases (by omega : j = k ∨ j < k) with rfl | hj
        · exact hgood.out
        · exact hok.out j hj, o1c, o2c, (bl2.setCell (by simp) _).setCell (by simp) _, (v0.far (by simp) _).far (by simp) _, v1.two _ _⟩
    case measure => simp [intOf]; omega
structure Bs where
 c : Int
 t : Int
 s : Int
def bs0 : Bs := ⟨0, 0, 0⟩
def bsR (b : Bs) : Bool := mrB b.c && (mrB b.t && mrB b.s)
def onI (base : Int) (b : Bs) : Int := if base = 1 then max 0 b.t else max 0 b.s
def underI (pc yc x ahead : Int) : Int :=
 let a := max 0 x
 let b := if 0 < pc then min a pc else a
 if 0 < yc then min b (max 0 (yc - max 0 ahead)) else b
theorem bright_c (b : Bs) (w : World) : Calls Tryz.prog 134 #[.agg #[.int .i64 b.c, .int .i64 b.t, .int .i64 b.s]] w fun e w' => e = .returned (.bool (bsR b)) ∧ Below w.heap.size w w' := by
 obtain ⟨c, t, s⟩ := b
 unfold bsR
 dsimp only
 go_enter Tryz.func134, Tryz.ntmps134
 go_wp2_with fail
 refine (right3 _ _ _ c t s _ (by simp) (by simp) (by simp)).mono ?_
 rintro e w' ⟨rfl, rfl⟩
 go_wp2_with fail
 go_ret
 exact ⟨rfl, (below1 _ _).alloc (by simp) _⟩
theorem on_c (nm : ByteArray) (base pc yc rd : Int) (A : Option Addr) (n c : Nat) (b : Bs) (w : World) :
  Calls Tryz.prog 180 #[.agg #[.string nm, .int .i64 base, .slice A n c, .int .i64 pc, .int .i64 yc, .int .i64 rd], .agg #[.int .i64 b.c, .int .i64 b.t, .int .i64 b.s]] w fun e w' => e = .returned (.int .i64 (onI base b)) ∧ Below w.heap.size w w' := by
 obtain ⟨xc, xt, xs⟩ := b
 unfold onI
 dsimp only
 by_cases h : base = 1
 ·
  subst h
  rw [if_pos rfl]
  go_enter Tryz.func180, Tryz.ntmps180
  go_wp2
  go_ret
  exact ⟨rfl, (below1 _ _).alloc (by simp) _⟩
 ·
  rw [if_neg h]
  have h' : (base == 1) = false := by simpa using h
  clear h
  go_enter Tryz.func180, Tryz.ntmps180
  go_wp2
  go_ret
  exact ⟨rfl, (below1 _ _).alloc (by simp) _⟩
theorem under_c (nm : ByteArray) (base pc yc rd : Int) (A : Option Addr) (n c : Nat) (x ahead : Int) (w : World) (hyc : -4611686018427387904 ≤ yc ∧ yc ≤ 4611686018427387904) (ha : -4611686018427387904 ≤ ahead ∧ ahead ≤ 4611686018427387904) :
  Calls Tryz.prog 179 #[.agg #[.string nm, .int .i64 base, .slice A n c, .int .i64 pc, .int .i64 yc, .int .i64 rd], .int .i64 x, .int .i64 ahead] w fun e w' => e = .returned (.int .i64 (underI pc yc x ahead)) ∧ Below w.heap.size w w' := by
 unfold underI
 dsimp only
 by_cases h1 : 0 < pc <;> by_cases h2 : 0 < yc
 ·
  rw [if_pos h1, if_pos h2]
  go_enter Tryz.func179, Tryz.ntmps179
  go_wp2
  go_ret
  exact ⟨ret_int (show _ = _ by omega), below1 _ _⟩
 ·
  rw [if_pos h1, if_neg h2]
  go_enter Tryz.func179, Tryz.ntmps179
  go_wp2
  go_ret
  exact ⟨rfl, below1 _ _⟩
 ·
  rw [if_neg h1, if_pos h2]
  go_enter Tryz.func179, Tryz.ntmps179
  go_wp2
  go_ret
  exact ⟨rfl, below1 _ _⟩
 ·
  rw [if_neg h1, if_neg h2]
  go_enter Tryz.func179, Tryz.ntmps179
  go_wp2
  go_ret
  exact ⟨rfl, below1 _ _⟩
def BsAt (w : World) (b off : Nat) (x : Bs) : Prop := w.cell? ⟨b, off, none⟩ = some (.int .i64 x.c) ∧ w.cell? ⟨b, off + 1, none⟩ = some (.int .i64 x.t) ∧ w.cell? ⟨b, off + 2, none⟩ = some (.int .i64 x.s)
theorem BsAt.below {w w' : World} {b off : Nat} {x : Bs} (h : BsAt w b off x) (hlt : b < w.heap.size) (hb : Below w.heap.size w w') : BsAt w' b off x :=
 ⟨(hb.cell (p := ⟨b, _, none⟩) hlt).trans h.1, (hb.cell (p := ⟨b, _, none⟩) hlt).trans h.2.1, (hb.cell (p := ⟨b, _, none⟩) hlt).trans h.2.2⟩
def BsSl := SlOf BsAt 3 bs0
theorem BsSl.below {w w' : World} {A : Option Addr} {n : Nat} {l : List Bs} (h : BsSl w A n l) (hb : Below w.heap.size w w') : BsSl w' A n l := SlOf.below h (fun b off x hx hlt => hx.below hlt hb) hb
def xI (c : Ct) (b : Bs) (ah : Int) : Int := underI c.pc c.yc (onI c.base b) ah
theorem on_bd (base : Int) (b : Bs) (h : bsR b = true) : 0 ≤ onI base b ∧ onI base b ≤ 100000000000 := by
 unfold bsR at h
 simp only [Bool.and_eq_true] at h
 have h1 := mr_iff.1 h.2.1
 have h2 := mr_iff.1 h.2.2
 unfold onI
 split <;> omega
theorem under_bd (pc yc x ahead : Int) (h0 : 0 ≤ x) : 0 ≤ underI pc yc x ahead ∧ underI pc yc x ahead ≤ x := by
 unfold underI
 dsimp only
 split <;> split <;> omega
theorem x_bd (c : Ct) (b : Bs) (ah : Int) (h : bsR b = true) : 0 ≤ xI c b ah ∧ xI c b ah ≤ 100000000000 := by
 have h1 := on_bd c.base b h
 have h2 := under_bd c.pc c.yc (onI c.base b) ah h1.1
 unfold xI
 omega
theorem right4 (b off c : Nat) (x y z u : Int) (w : World) (h0 : w.cell? ⟨b, off, none⟩ = some (.int .i64 x)) (h1 : w.cell? ⟨b, off + 1, none⟩ = some (.int .i64 y)) (h2 : w.cell? ⟨b, off + 2, none⟩ = some (.int .i64 z)) (h3 : w.cell? ⟨b, off + 3, none⟩ = some (.int .i64 u)) :
  Calls prog 76 #[.slice (some ⟨b, off, none⟩) 4 c] w fun e w' => e = .returned (.bool (mrB x && (mrB y && (mrB z && mrB u)))) ∧ w = w' := by
 refine (right_any b off c 4 [x, y, z, u] w rfl (by decide) (fun k hk => ?_)).mono fun e w' ⟨he, hw⟩ => ⟨he.trans (by simp), hw⟩
 rcases (by omega : k = 0 ∨ k = 1 ∨ k = 2 ∨ k = 3) with rfl | rfl | rfl | rfl
 ·
  exact h0
 ·
  exact h1
 ·
  exact h2
 ·
  exact h3
theorem hlimit_c (As Ac Ak : Option Addr) (ns cs nc cc nk ck : Nat) (lim rnd cash : Int) (w : World) (hc : cash ≤ 100000000000) (hl : 0 ≤ lim ∧ lim ≤ 10000) :
  Calls prog 128 #[.agg #[.slice As ns cs, .slice Ac nc cc, .slice Ak nk ck, .int .i64 lim, .int .i64 rnd], .int .i64 cash] w fun e w' => e = .returned (.tuple #[.int .i64 (limI lim cash), .int .i64 0]) ∧ Below w.heap.size w w' := by
 have hb0 := below1 w (.cells #[.slice As ns cs, .slice Ac nc cc, .slice Ak nk ck, .int .i64 lim, .int .i64 rnd] 26)
 have K1 := hid (take_t (max 0 cash) lim 1 · (mr_t (by omega)) (rateB_iff.2 hl) (by decide))
 rw [round_down, show max 0 cash * lim / 10000 = limI lim cash from rfl] at K1
 generalize limI lim cash = lv at *
 obtain ⟨l0, l1⟩ := hl
 go_enter func128, ntmps128
 go_wp2_with fail
 refine (K1.out _).mono ?_
 rintro e w1 ⟨rfl, hb1⟩
 go_wp2_with fail
 go_ret2
 exact ⟨rfl, bT hb0 hb1⟩
theorem hpart_c (need limit : Int) (back : Bool) (w : World) : Calls prog 129 #[.int .i64 need, .int .i64 limit, .bool back] w fun e w' => e = .returned (.int .i64 (partI need limit back)) ∧ w = w' := by
 obtain ⟨r, hr⟩ : ∃ r, r = partI need limit back := ⟨_, rfl⟩
 rw [← hr]
 unfold partI at hr
 cases back with
 | true =>
  rw [if_pos rfl] at hr
  have HR := hid hr
  clear hr
  go_enter func129, ntmps129
  go_wp2_with fail
  go_ret
  exact ⟨ret_int HR.out.symm, rfl⟩
 | false =>
  rw [if_neg (by decide)] at hr
  have HR := hid hr
  clear hr
  go_enter func129, ntmps129
  go_wp2_with fail
  go_ret
  exact ⟨ret_int HR.out.symm, rfl⟩
theorem sexact_t (nm : ByteArray) (base pc yc rd : Int) (A : Option Addr) (n c : Nat) (l : List Bd) (x : Int) (w : World) (h : BandSl w A n l) (hl : bE9 l = 0) (hx : mrB x = true) :
  Calls prog 199 #[.agg #[.string nm, .int .i64 base, .slice A n c, .int .i64 pc, .int .i64 yc, .int .i64 rd], .int .i64 x] w (PairIs (bandS (·.r) l x) (bandS (·.e) l x) w) := by
 have K := hid (fun w h => banded_t x l A n c w h hl hx)
 generalize bandS (·.r) l x = P at *
 generalize bandS (·.e) l x = E at *
 clear hl
 go_enter func199, ntmps199
 go_wp2_with fail
 refine (K.out _ (h.below (below1 _ _))).mono ?_
 rintro e w1 ⟨⟨u, v, rfl, ru, rv⟩, hb1⟩
 go_wp2_with fail
 go_ret2
 exact ⟨⟨_, _, rfl, ru, rv⟩, (below1 _ _).trans (hb1.mono (by simp))⟩
theorem sdue_t (nm : ByteArray) (base pc yc rd : Int) (A : Option Addr) (n c : Nat) (l : List Bd) (x : Int) (w : World) (h : BandSl w A n l) (hl : bE9 l = 0) (hx : mrB x = true) (hm : modeB rd = true)
  (hp : in53 (bandS (·.r) l x) = true) (hq : in53 (bandS (·.e) l x) = true) :
  Calls prog 181 #[.agg #[.string nm, .int .i64 base, .slice A n c, .int .i64 pc, .int .i64 yc, .int .i64 rd], .int .i64 x] w fun e w' => e = .returned (.tuple #[.agg #[.int .i64 (ro9 (bandS (·.r) l x) 10000 rd), .int .i64 (ro9 (bandS (·.e) l x) 10000 rd)], .int .i64 0]) ∧ Below w.heap.size w w' := by
 have K := hid (fun w h => sexact_t nm base pc yc rd A n c l x w h hl hx)
 have K2 := hid (fun u v a b ru rv ha hb => pcoins_t u v a b rd ru rv ha hb hm)
 generalize bandS (·.r) l x = P at *
 generalize bandS (·.e) l x = E at *
 generalize hrp : ro9 P 10000 rd = rp at *
 generalize hre : ro9 E 10000 rd = re at *
 have HRP := hid hrp
 have HRE := hid hre
 clear hl hrp hre
 go_enter func181, ntmps181
 go_wp2_with fail
 refine (K.out _ (h.below ((below1 _ _).alloc (by simp) _))).mono ?_
 rintro e w1 ⟨⟨u, v, rfl, ru, rv⟩, hb1⟩
 have cb := ((Blk.mk w 195 #[.string nm, .int .i64 base, .slice A n c, .int .i64 pc, .int .i64 yc, .int .i64 rd]).alloc (.cells #[.int .i64 0, .int .i64 0] 79)).below hb1 (by simp; omega)
 have rb := (Blk.mk (w.alloc (.cells #[.string nm, .int .i64 base, .slice A n c, .int .i64 pc, .int .i64 yc, .int .i64 rd] 195)) 79 #[.int .i64 0, .int .i64 0]).below hb1 (by simp)
 rw [World.size_alloc] at rb
 have b1 : Below w.heap.size w w1 := ((below1 _ _).alloc (by simp) _).trans (hb1.mono (by simp; omega))
 obtain ⟨q0, q1, q2, q3, q4, q5⟩ := cb.all6
 obtain ⟨r0, r1, r2, r3⟩ := rb.all2
 go_wp2_with fail
 refine (K2.out u v P E ru rv hp hq _).mono ?_
 rw [HRP.out, HRE.out]
 rintro e w2 ⟨rfl, hb2⟩
 have rb2 := rb.below hb2 rb.lt
 obtain ⟨y0, y1, y2, y3⟩ := rb2.all2
 have b2 : Below w.heap.size w w2 := b1.trans (hb2.mono b1.size)
 go_wp2_with fail
 exact bodyPost_ret (v := .tuple #[.agg #[.int .i64 rp, .int .i64 re], .int .i64 0]) (by simp [results, results181, go_sem, y0, y1]) rfl ⟨rfl, (b2.setCell (by simp) _).setCell (by simp) _⟩
def shI (c : Ct) (x : Int) : Sh := ⟨ro9 (bandS (·.r) c.bands x) 10000 c.rd, ro9 (bandS (·.e) c.bands x) 10000 c.rd⟩
def shC (s : Sh) : List Value := [.int .i64 s.a, .int .i64 s.b]
theorem bandS_bd (l : List Bd) (hl : bE9 l = 0) (x : Int) (hx : mrB x = true) : (0 ≤ bandS (·.r) l x ∧ bandS (·.r) l x ≤ 8000000000000000) ∧ (0 ≤ bandS (·.e) l x ∧ bandS (·.e) l x ≤ 8000000000000000) := by
 have g := goodB l hl
 have hx' := mr_iff.1 hx
 have h1 := prog_bd x (fun k => (l.getD k bd0).f) (fun k => (l.getD k bd0).r) l.length (fun i hi => (g.f i hi).1) g.r hx'.2 l.length (Nat.le_refl _)
 have h2 := prog_bd x (fun k => (l.getD k bd0).f) (fun k => (l.getD k bd0).e) l.length (fun i hi => (g.f i hi).1) g.e hx'.2 l.length (Nat.le_refl _)
 have h3 := g.hi
 unfold bandS
 dsimp only
 omega
def xAt (cts : List Ct) (b : Bs) (l : List Int) (i : Nat) : Int := xI (cts.getD i ct0) b (l.getD i 0)
def okA (cts : List Ct) (b : Bs) (l : List Int) (n : Nat) : Bool := bsR b && (List.range n).all fun i => mrB (l.getD i 0 + xAt cts b l i)
def rowA (cts : List Ct) (b : Bs) (l : List Int) (n : Nat) : List Sh := (List.range n).map fun i => shI (cts.getD i ct0) (xAt cts b l i)
def stepTo (cts : List Ct) (b : Bs) (l : List Int) (n k : Nat) : List Int := (List.range n).map fun i => if i < k then l.getD i 0 + xAt cts b l i else l.getD i 0
def OwnS (w : World) (base : Nat) (v : Value) (n : Nat) (l : List Sh) : Prop := n = l.length ∧ w.ownsRow base 79 2 v n (l.flatMap shC)
theorem info_share : (prog.info? 79).map (fun i => (i.zero, i.size, i.bytes)) = some (some (.agg #[.int .i64 0, .int .i64 0]), 2, 16) := by kernel_rfl
def PerR (cts : List Ct) (b : Bs) (l : List Int) (n : Nat) (w : World) (e : Ending) (w' : World) : Prop :=
  ((okA cts b l n = true ∧ ∃ v vn, e = .returned (.tuple #[v, vn, .int .i64 0]) ∧ OwnS w' w.heap.size v n (rowA cts b l n) ∧ OwnI w' w.heap.size vn n (stepTo cts b l n n)) ∨
   (okA cts b l n = false ∧ e = .returned (.tuple #[.slice none 0 0, .slice none 0 0, .int .i64 10]))) ∧ Below w.heap.size w w'
theorem stepTo_zero (cts : List Ct) (b : Bs) (l : List Int) : stepTo cts b l l.length 0 = l := by
 unfold stepTo
 apply List.ext_getElem
 ·
  simp
 ·
  intro i h1 h2
  simp [List.getD, List.getElem?_eq_getElem h2]
theorem stepTo_set (cts : List Ct) (b : Bs) (l : List Int) (n k : Nat) (y : Int) (hk : k < n) (hy : y = l.getD k 0 + xAt cts b l k) : ((stepTo cts b l n k).map (Value.int .i64)).set k (.int .i64 y) = (stepTo cts b l n (k + 1)).map (Value.int .i64) := by
 unfold stepTo
 apply List.ext_getElem
 ·
  simp
 ·
  intro i h1 h2
  rw [List.getElem_set]
  by_cases h : k = i
  ·
   subst h; simp [hy]
  ·
   rw [if_neg h]
   by_cases h3 : i < k
   ·
    simp [h3, Nat.lt_succ_of_lt h3]
   ·
    simp [h3, show ¬ i < k + 1 from by omega]
theorem okA_no (cts : List Ct) (b : Bs) (l : List Int) (n k : Nat) (hk : k < n) (h : mrB (l.getD k 0 + xAt cts b l k) = false) : okA cts b l n = false := by
 unfold okA
 rw [Bool.and_eq_false_iff]
 right
 rw [List.all_eq_false]
 exact ⟨k, by simpa using hk, by simp only [h]; decide⟩
theorem okA_yes (cts : List Ct) (b : Bs) (l : List Int) (n : Nat) (hb : bsR b = true) (h : ∀ k, k < n → mrB (l.getD k 0 + xAt cts b l k) = true) : okA cts b l n = true := by
 unfold okA
 rw [hb, Bool.true_and, List.all_eq_true]
 intro k hk
 exact h k (by simpa using hk)
theorem all_mr {l : List Int} (h : l.all mrB = true) (k : Nat) : -100000000000 ≤ l.getD k 0 ∧ l.getD k 0 ≤ 100000000000 := by
 rw [List.all_eq_true] at h
 by_cases hk : k < l.length
 ·
  have := mr_iff.1 (h l[k] (List.getElem_mem hk))
  simp [List.getD, List.getElem?_eq_getElem hk]
  exact this
 ·
  simp [List.getD, List.getElem?_eq_none (by omega : l.length ≤ k)]
theorem period_c (cts : List Ct) (As Ac Ak A : Option Addr) (ns cs nc cc nk ck c : Nat) (lim rnd : Int) (bc bt bs : Int) (l : List Int) (w : World) (hs : CtSl w Ac nc cts) (hok : ∀ k, k < nc → CtOK (cts.getD k ct0)) (hl : I64Sl w A nc l) (hr : l.all mrB = true) (hn : nc ≤ 1000) :
  Calls prog 160 #[.agg #[.slice As ns cs, .slice Ac nc cc, .slice Ak nk ck, .int .i64 lim, .int .i64 rnd], .agg #[.int .i64 bc, .int .i64 bt, .int .i64 bs], .slice A nc c] w (PerR cts ⟨bc, bt, bs⟩ l nc w) := by
 have tn : ((nc : Int) != (nc : Int)) = false := by simp
 have HB := hid (bright_c ⟨bc, bt, bs⟩)
 cases hb : bsR ⟨bc, bt, bs⟩
 ·
  rw [hb] at HB
  have HN : Hid (okA cts ⟨bc, bt, bs⟩ l nc = false) := by unfold Hid okA; rw [hb]; rfl
  clear hb
  go_enter func160, ntmps160
  go_wp2_with fail
  refine (HB.out _).mono ?_
  rintro e w1 ⟨rfl, hb1⟩
  go_wp2_with fail
  go_ret3
  exact ⟨Or.inr ⟨HN.out, rfl⟩, bT (bA (below1 _ _) _) hb1⟩
 rw [hb] at HB
 have HS := hid hs
 have HL := hid hl
 have HR := hid hr
 have HOK := hid hok
 have HBS := hid hb
 clear hs hl hr hok hb
 have y0 := Blk.mk (w.alloc (.cells #[.slice As ns cs, .slice Ac nc cc, .slice Ak nk ck, .int .i64 lim, .int .i64 rnd] 26)) 41 #[.int .i64 bc, .int .i64 bt, .int .i64 bs]
 rw [World.size_alloc] at y0
 have z0 := (Blk.mk w 26 #[.slice As ns cs, .slice Ac nc cc, .slice Ak nk ck, .int .i64 lim, .int .i64 rnd]).alloc (.cells #[.int .i64 bc, .int .i64 bt, .int .i64 bs] 41)
 have hb0 := bA (below1 w (.cells #[.slice As ns cs, .slice Ac nc cc, .slice Ak nk ck, .int .i64 lim, .int .i64 rnd] 26)) (.cells #[.int .i64 bc, .int .i64 bt, .int .i64 bs] 41)
 go_enter func160, ntmps160
 go_wp2_with fail
 refine (HB.out _).mono ?_
 rintro e w1 ⟨rfl, hb1⟩
 have y1 := y0.t hb1
 have z1 := z0.t hb1
 have hb2 := bT hb0 hb1
 go_wp2_with fail
 refine (right_sl A nc c l _ (HL.out.below hb2)).mono ?_
 rw [HR.out]
 rintro e w' ⟨rfl, rfl⟩
 go_wp2_with fail
 refine (clone64_c A nc c l _ (HL.out.below hb2) (by omega)).mono ?_
 rintro e w2 ⟨⟨vn0, rfl, hvn1, hvn⟩, hb3⟩
 have y2 := y1.t hb3
 have z2 := z1.t hb3
 have hb4 := bT hb2 hb3
 obtain ⟨q0, q1, q2, q3, q4⟩ := z2.all5
 have HV1 := hid hvn1
 clear hvn1
 go_wp2_with fail
 go_loopw [9, 35] (fun v i wr => ∃ k : Nat, k ≤ nc ∧ i = .int .i64 k ∧ Hid (∀ j, j < k → mrB (l.getD j 0 + xAt cts ⟨bc, bt, bs⟩ l j) = true) ∧ OwnS wr w.heap.size v k (rowA cts ⟨bc, bt, bs⟩ l k) ∧ OwnI wr w.heap.size vn0 nc (stepTo cts ⟨bc, bt, bs⟩ l nc k) ∧ Below w.heap.size w wr ∧ Blk wr (w.heap.size + 1) 41 #[.int .i64 bc, .int .i64 bt, .int .i64 bs]) (fun _ i _ => nc - (intOf i).toNat)
 case atStart => exact ⟨0, Nat.zero_le _, rfl, fun j hj => absurd hj (by omega), ⟨by simp [rowA], World.ownsRow_nil _ _ _ _⟩, ⟨by simp [stepTo], by
  have := stepTo_zero cts ⟨bc, bt, bs⟩ l
  rw [← HV1.out] at this
  rw [this]
  exact oM9 hvn hb2.size⟩, hb4, y2⟩
 case round =>
  obtain ⟨k, hk', rfl, hM, ⟨ho1, ho⟩, ⟨hv1, hv⟩, hbl, y⟩ := hrel
  have HO1 := hid ho1
  have HV1 := hid hv1
  clear ho1 hv1
  by_cases hk : k < nc
  case neg =>
   obtain rfl : k = nc := by omega
   go_wp2_with fail
   go_ret3
   exact ⟨Or.inl ⟨okA_yes cts ⟨bc, bt, bs⟩ l _ HBS.out hM.out, _, _, rfl, ⟨HO1.out, ho⟩, ⟨HV1.out, hv⟩⟩, hbl⟩
  obtain ⟨b, off, rfl, hlt, hat⟩ := (HS.out.below hbl).2.2 (by omega)
  obtain ⟨c0, _, c1, ⟨A', n', c', c2, hbs⟩, c3, c4, c5⟩ := hat k hk
  obtain ⟨ba, offa, rfl, hlta, hata⟩ := (HL.out.below hbl).2.2 (by omega)
  have d0 := hata k hk
  have hOK := HOK.out k hk
  have har := all_mr HR.out k
  have hxs := x_bd (cts.getD k ct0) ⟨bc, bt, bs⟩ (l.getD k 0) HBS.out
  obtain ⟨x, hx⟩ : ∃ x, x = xAt cts ⟨bc, bt, bs⟩ l k := ⟨_, rfl⟩
  rw [show xI (cts.getD k ct0) ⟨bc, bt, bs⟩ (l.getD k 0) = x from hx.symm] at hxs
  have hsh : Hid (rowA cts ⟨bc, bt, bs⟩ l (k + 1) = rowA cts ⟨bc, bt, bs⟩ l k ++ [shI (cts.getD k ct0) x]) := by
   unfold Hid rowA
   rw [List.range_succ, List.map_append, hx]
   rfl
  have hset := hid (fun y => stepTo_set cts ⟨bc, bt, bs⟩ l nc k y hk)
  have hno := hid (okA_no cts ⟨bc, bt, bs⟩ l nc k hk)
  have hxm : mrB x = true := mr_t (by omega)
  have hcut : xI (cts.getD k ct0) ⟨bc, bt, bs⟩ (l.getD k 0) = x := hx.symm
  rw [← hx] at hno hset
  have HMX : Hid (mrB (l.getD k 0 + x) = true → ∀ j, j < k + 1 → mrB (l.getD j 0 + xAt cts ⟨bc, bt, bs⟩ l j) = true) := fun h j hj => by
   rcases (by omega : j = k ∨ j < k) with rfl | hj
   ·
    rw [← hx]; exact h
   ·
    exact hM.out j hj
  have HCt := hid hat
  clear hx hat hata
  unfold shI at hsh
  generalize l.getD k 0 = ah at *
  generalize cts.getD k ct0 = ct at *
  obtain ⟨nm, base, bands, pc, yc, rd⟩ := ct
  obtain ⟨_, okb, okm, okp, oky, okl⟩ := hOK
  dsimp only at c0 c1 c2 c3 c4 c5 hbs okb okm okp oky okl hcut hsh
  have hbd := bandS_bd bands okl x hxm
  have KO := hid (on_c nm base pc yc rd A' n' c' ⟨bc, bt, bs⟩)
  have KU := hid (under_c nm base pc yc rd A' n' c' (onI base ⟨bc, bt, bs⟩) ah · (by omega) (by omega))
  unfold xI at hcut
  dsimp only at hcut
  rw [hcut] at KU
  clear hcut
  have KD := hid (fun W h => sdue_t nm base pc yc rd A' n' c' bands x W h okl hxm okm (i53.2 (by omega)) (i53.2 (by omega)))
  generalize onI base ⟨bc, bt, bs⟩ = o at *
  generalize ro9 (bandS (·.r) bands x) 10000 rd = ra at *
  generalize ro9 (bandS (·.e) bands x) 10000 rd = rb at *
  clear hbd okl
  have y2 := y.alloc (.cells #[.string nm, .int .i64 base, .slice A' n' c', .int .i64 pc, .int .i64 yc, .int .i64 rd] 195)
  have cb := Blk.mk wr 195 #[.string nm, .int .i64 base, .slice A' n' c', .int .i64 pc, .int .i64 yc, .int .i64 rd]
  have HO := hid (ho.alloc (.cells #[.string nm, .int .i64 base, .slice A' n' c', .int .i64 pc, .int .i64 yc, .int .i64 rd] 195))
  have HV := hid (hv.alloc (.cells #[.string nm, .int .i64 base, .slice A' n' c', .int .i64 pc, .int .i64 yc, .int .i64 rd] 195))
  have hb5 := bA hbl (.cells #[.string nm, .int .i64 base, .slice A' n' c', .int .i64 pc, .int .i64 yc, .int .i64 rd] 195)
  have d1 := ((below1 wr (.cells #[.string nm, .int .i64 base, .slice A' n' c', .int .i64 pc, .int .i64 yc, .int .i64 rd] 195)).cell (p := ⟨ba, offa + k, none⟩) hlta).trans d0
  have hbs1 := hbs.below (below1 wr (.cells #[.string nm, .int .i64 base, .slice A' n' c', .int .i64 pc, .int .i64 yc, .int .i64 rd] 195))
  have hsz := hbl.size
  have hlt2 : ba < (wr.alloc (.cells #[.string nm, .int .i64 base, .slice A' n' c', .int .i64 pc, .int .i64 yc, .int .i64 rd] 195)).heap.size := by simp; omega
  clear ho hv
  go_wp2_with fail
  generalize hW5 : wr.alloc (.cells #[.string nm, .int .i64 base, .slice A' n' c', .int .i64 pc, .int .i64 yc, .int .i64 rd] 195) = w5 at *
  clear hW5
  have G : Hid (∀ W, Below w5.heap.size w5 W → Below w5.heap.size w5 W ∧ W.cell? ⟨wr.heap.size, 0, none⟩ = some (.string nm) ∧ W.cell? ⟨wr.heap.size, 1, none⟩ = some (.int .i64 base) ∧ W.cell? ⟨wr.heap.size, 2, none⟩ = some (.slice A' n' c') ∧ W.cell? ⟨wr.heap.size, 3, none⟩ = some (.int .i64 pc) ∧ W.cell? ⟨wr.heap.size, 4, none⟩ = some (.int .i64 yc) ∧ W.cell? ⟨wr.heap.size, 5, none⟩ = some (.int .i64 rd) ∧ W.cell? ⟨w.heap.size + 1, 0, none⟩ = some (.int .i64 bc) ∧ W.cell? ⟨w.heap.size + 1, 1, none⟩ = some (.int .i64 bt) ∧ W.cell? ⟨w.heap.size + 1, 2, none⟩ = some (.int .i64 bs) ∧ W.cell? ⟨ba, offa + k, none⟩ = some (.int .i64 ah)) := fun W hW =>
   ⟨hW, (cb.t hW).cell 0, (cb.t hW).cell 1, (cb.t hW).cell 2, (cb.t hW).cell 3, (cb.t hW).cell 4, (cb.t hW).cell 5, (y2.t hW).cell 0, (y2.t hW).cell 1, (y2.t hW).cell 2, (hW.cell (p := ⟨ba, offa + k, none⟩) hlt2).trans d1⟩
  go_region_held3 (fun W => Below w5.heap.size w5 W ∧ W.cell? ⟨wr.heap.size, 0, none⟩ = some (.string nm) ∧ W.cell? ⟨wr.heap.size, 1, none⟩ = some (.int .i64 base) ∧ W.cell? ⟨wr.heap.size, 2, none⟩ = some (.slice A' n' c') ∧ W.cell? ⟨wr.heap.size, 3, none⟩ = some (.int .i64 pc) ∧ W.cell? ⟨wr.heap.size, 4, none⟩ = some (.int .i64 yc) ∧ W.cell? ⟨wr.heap.size, 5, none⟩ = some (.int .i64 rd) ∧ W.cell? ⟨w.heap.size + 1, 0, none⟩ = some (.int .i64 bc) ∧ W.cell? ⟨w.heap.size + 1, 1, none⟩ = some (.int .i64 bt) ∧ W.cell? ⟨w.heap.size + 1, 2, none⟩ = some (.int .i64 bs) ∧ W.cell? ⟨ba, offa + k, none⟩ = some (.int .i64 ah))
   (first | assumption | exact G.out _ (b0 _).drew | (exact sK G.out (by assumption) (by assumption)))
   (first | (go_at_call 180; refine (KO.out _).mono ?_; rintro e w6 ⟨rfl, hb6⟩) | (go_at_call 179; refine (KU.out _).mono ?_; rintro e w7 ⟨rfl, hb7⟩))
  have hB : Below w5.heap.size w5 w7 := (show Below w5.heap.size w5 w7 ∧ _ from by assumption).1
  have cb2 := cb.t hB
  have y3 := y2.t hB
  have HO2 := hid (oB9 HO.out hB)
  have HV2 := hid (oB9 HV.out hB)
  have hb8 := bT hb5 hB
  obtain ⟨p0, p1, p2, p3, p4, p5⟩ := cb2.all6
  have hbs2 := hbs1.below hB
  have d2 := (hB.cell (p := ⟨ba, offa + k, none⟩) hlt2).trans d1
  have hs7 := hB.size
  go_wp2_with fail
  refine (KD.out _ hbs2).mono ?_
  rintro e w8 ⟨rfl, hb9⟩
  have y4 := y3.t hb9
  have HO3 := hid (oB9 HO2.out hb9)
  have HV3 := hid (oB9 HV2.out hb9)
  have hb10 := bT hb8 hb9
  have hlt3 : ba < w7.heap.size := by omega
  have d3 := (hb9.cell (p := ⟨ba, offa + k, none⟩) hlt3).trans d2
  have hs8 := hb9.size
  have hlt4 : ba < w8.heap.size := by omega
  have d4 := ((below1 w8 (.cells #[.int .i64 ra, .int .i64 rb] 79)).cell (p := ⟨ba, offa + k, none⟩) hlt4).trans d3
  obtain ⟨g, cap, hvn, hgb, hgl, hgc, hg⟩ := own_form HV3.out (by omega)
  subst hvn
  have hg0 := hg.frozenAt k
  have hg1 := hg.cellAt k (by omega)
  have hgk : ((stepTo cts ⟨bc, bt, bs⟩ l nc k).map (Value.int .i64))[k]? = some (.int .i64 ((stepTo cts ⟨bc, bt, bs⟩ l nc k).getD k 0)) := map_getD_int _ k (by rw [← HV1.out]; exact hk)
  rw [hgk] at hg1
  have HG := hid hg
  clear hgk hg
  have kz : ((k : Int)).toNat = k := by omega
  generalize (stepTo cts ⟨bc, bt, bs⟩ l nc k).getD k 0 = old at hg1
  have sb := Blk.mk w8 79 #[.int .i64 ra, .int .i64 rb]
  have hsg : w8.heap.size ≠ g := by omega
  have hm0 : mrB ah = true := mr_t (by omega)
  cases hm : mrB (ah + x)
  ·
   have HN := hid (hno.out hm)
   have HM := hid (show ¬ (mrB ah = true ∧ mrB x = true ∧ mrB (ah + x) = true) from by rw [hm]; simp)
   clear hm
   go_wp2_with fail
   refine (add_f ah x _ HM.out).mono ?_
   rintro e w10 ⟨rfl, hb11⟩
   have e1 := (hb11.cell (p := ⟨g, k, none⟩) (show g < _ by simp; omega)).trans (((below1 w8 (.cells #[.int .i64 ra, .int .i64 rb] 79)).cell (p := ⟨g, k, none⟩) hgl).trans hg1)
   have e0 := (oB9 (HG.out.alloc (.cells #[.int .i64 ra, .int .i64 rb] 79)) hb11).frozenAt k
   have hbz := bS (bT (bA hb10 _) hb11) (p := ⟨g, k, none⟩) hgb (.int .i64 0)
   clear hgc
   go_wp2_with fail
   go_ret3
   exact ⟨Or.inr ⟨HN.out, rfl⟩, hbz⟩
  ·
   have HM := HMX.out hm
   have HMM := hid HM
   clear HM
   go_wp2_with fail
   refine (add_t ah x _ hm0 hxm hm).mono ?_
   rintro e w10 ⟨rfl, hb11⟩
   have e1 := (hb11.cell (p := ⟨g, k, none⟩) (show g < _ by simp; omega)).trans (((below1 w8 (.cells #[.int .i64 ra, .int .i64 rb] 79)).cell (p := ⟨g, k, none⟩) hgl).trans hg1)
   have HGG := oB9 (HG.out.alloc (.cells #[.int .i64 ra, .int .i64 rb] 79)) hb11
   have e0 := HGG.frozenAt k
   have hst := HGG.stored k (.int .i64 (ah + x))
   rw [hset.out _ rfl] at hst
   have hbz := bS (bT (bA hb10 _) hb11) (p := ⟨g, k, none⟩) hgb (.int .i64 (ah + x))
   have sb2 := (sb.t hb11).far (a := ⟨g, k, none⟩) hsg (.int .i64 (ah + x))
   have y5 := ((y4.alloc (.cells #[.int .i64 ra, .int .i64 rb] 79)).t hb11).grown hst.2 (own_blk HGG ((y4.alloc (.cells #[.int .i64 ra, .int .i64 rb] 79)).t hb11) (by decide))
   have HO4 := (oB9 (HO3.out.alloc (.cells #[.int .i64 ra, .int .i64 rb] 79)) hb11).kept hst.2 (own_own (oB9 (HO3.out.alloc (.cells #[.int .i64 ra, .int .i64 rb] 79)) hb11) HGG (by decide))
   have HO5 := hid HO4
   have HST := hid hst
   obtain ⟨s0, s1, s2, s3⟩ := sb2.all2
   have hsz5 := hbz.size
   clear hst HO4 HGG hgc
   go_wp2_with (at_builtin; refine wa9 _ rfl _ _ 71 rfl 79 _ 2 16 underlying71 info_share rfl (by decide) rfl HO5.out _ rfl (by first | rfl | simp) rfl (by simp [Value.oneCell']) (by omega) (by omega) (by first | omega | exact hsz5 | (simp; omega)) ?_; intro v' w11 ho' hg)
   go_roundw
   case rel =>
    refine ⟨k + 1, by omega, by go_num, HMM.out, ⟨by simp [rowA], ?_⟩, ⟨by simp [stepTo], HST.out.1.kept hg (own_own HST.out.1 HO5.out (by decide))⟩, bP hbz HO5.out hg (Nat.le_refl _), y5.grown hg (own_blk HO5.out y5 (by decide))⟩
    rw [hsh.out, List.flatMap_append]
    simpa [shC] using ho'
   case measure => simp [intOf]; omega
def ahd (cts : List Ct) (l : List Bs) (nc : Nat) : Nat → List Int
 | 0 => List.replicate nc 0
 | k + 1 => stepTo cts (l.getD k bs0) (ahd cts l nc k) nc nc
def okY (cts : List Ct) (l : List Bs) (nc k : Nat) : Bool := okA cts (l.getD k bs0) (ahd cts l nc k) nc
def rowY (cts : List Ct) (l : List Bs) (nc k : Nat) : List Sh := rowA cts (l.getD k bs0) (ahd cts l nc k) nc
theorem okA_all {cts : List Ct} {b : Bs} {l : List Int} {n : Nat} (h : okA cts b l n = true) : ∀ k, k < n → mrB (l.getD k 0 + xAt cts b l k) = true := by
 unfold okA at h
 rw [Bool.and_eq_true, List.all_eq_true] at h
 exact fun k hk => h.2 k (by simpa using hk)
theorem step_mr {cts : List Ct} {b : Bs} {l : List Int} {n : Nat} (h : okA cts b l n = true) : (stepTo cts b l n n).all mrB = true := by
 rw [List.all_eq_true]
 intro x hx
 unfold stepTo at hx
 rw [List.mem_map] at hx
 obtain ⟨i, hi, rfl⟩ := hx
 have hi' : i < n := by simpa using hi
 rw [if_pos hi']
 exact okA_all h i hi'
theorem ahd_mr (cts : List Ct) (l : List Bs) (nc k : Nat) (h : ∀ j, j < k → okY cts l nc j = true) : (ahd cts l nc k).all mrB = true := by
 cases k with
 | zero => simp [ahd]; right; decide
 | succ k => exact step_mr (h k (by omega))
def RowsOwn (w : World) (base : Nat) (v : Value) (n nc : Nat) (f : Nat → List Sh) : Prop :=
 ∃ vs : List Value, w.ownsRow base 71 1 v n vs ∧ ∀ k, k < n → ∃ u, vs[k]? = some u ∧ OwnS w base u nc (f k)
theorem RowsOwn.below {w w' : World} {base : Nat} {v : Value} {n nc : Nat} {f : Nat → List Sh} (h : RowsOwn w base v n nc f) (hb : Below w.heap.size w w') : RowsOwn w' base v n nc f := by
 obtain ⟨vs, h1, h2⟩ := h
 refine ⟨vs, oB9 h1 hb, fun k hk => ?_⟩
 obtain ⟨u, h3, h4, h5⟩ := h2 k hk
 exact ⟨u, h3, h4, oB9 h5 hb⟩
theorem info_row : (prog.info? 71).map (fun i => (i.zero, i.size, i.bytes)) = some (some (.slice none 0 0), 1, 24) := by kernel_rfl
def YearR (cts : List Ct) (l : List Bs) (nc n : Nat) (w : World) (e : Ending) (w' : World) : Prop :=
  (((∀ k, k < n → okY cts l nc k = true) ∧ ∃ v, e = .returned (.tuple #[v, .int .i64 0]) ∧ RowsOwn w' w.heap.size v n nc (rowY cts l nc)) ∨
   ((∃ k, k < n ∧ okY cts l nc k = false) ∧ e = .returned (.tuple #[.slice none 0 0, .int .i64 10]))) ∧ Below w.heap.size w w'
theorem year_c (cts : List Ct) (As Ac Ak A : Option Addr) (ns cs nc cc nk ck n c : Nat) (lim rnd : Int) (l : List Bs) (w : World) (hs : CtSl w Ac nc cts) (hok : ∀ k, k < nc → CtOK (cts.getD k ct0)) (hl : BsSl w A n l) (hn : nc ≤ 1000) (hn2 : n ≤ 1000) :
    Calls prog 126 #[.agg #[.slice As ns cs, .slice Ac nc cc, .slice Ak nk ck, .int .i64 lim, .int .i64 rnd], .slice A n c] w (YearR cts l nc n w) := by
  have HS := hid hs
  have HL := hid hl
  have HOK := hid hok
  have hmk := fun W => run_make_K (P := prog) 165 2 (.int .i64 0) 1 8 underlying165 info_i64 nc (by omega) (by omega) W
  have hz : (Value.cells (.int .i64 0)) = #[.int .i64 0] := rfl
  rw [hz, Nat.mul_one] at hmk
  have hmo := own_made (w.alloc (.cells #[.slice As ns cs, .slice Ac nc cc, .slice Ak nk ck, .int .i64 lim, .int .i64 rnd] 26)) 2 #[.int .i64 0] 1 nc (by omega) (base := w.heap.size) (by simp)
  rw [Nat.mul_one, toList_madeCells_one] at hmo
  have HMO := hid hmo
  have z0 := (Blk.mk w 26 #[.slice As ns cs, .slice Ac nc cc, .slice Ak nk ck, .int .i64 lim, .int .i64 rnd]).alloc (.cells (madeCells #[.int .i64 0] nc) 2)
  have hb0 := bA (below1 w (.cells #[.slice As ns cs, .slice Ac nc cc, .slice Ak nk ck, .int .i64 lim, .int .i64 rnd] 26)) (.cells (madeCells #[.int .i64 0] nc) 2)
  clear hs hl hok hz hmo
  go_enter func126, ntmps126
  go_wp2_with fail
  clear hmk
  go_loopw [6, 7, 19] (fun va v i wr => ∃ k : Nat, k ≤ n ∧ i = .int .i64 k ∧ Hid (∀ j, j < k → okY cts l nc j = true) ∧ OwnI wr w.heap.size va nc (ahd cts l nc k) ∧ RowsOwn wr w.heap.size v k nc (rowY cts l nc) ∧ Below w.heap.size w wr ∧ Blk wr w.heap.size 26 #[.slice As ns cs, .slice Ac nc cc, .slice Ak nk ck, .int .i64 lim, .int .i64 rnd]) (fun _ _ i _ => n - (intOf i).toNat)
  case atStart => exact ⟨0, Nat.zero_le _, rfl, fun j hj => absurd hj (by omega), ⟨by simp [ahd], by have := HMO.out; simpa [ahd] using this⟩, ⟨[], World.ownsRow_nil _ _ _ _, fun k hk => absurd hk (by omega)⟩, hb0, z0⟩
  case round =>
    obtain ⟨k, hk', rfl, hM, hv, ⟨vs, ho, hrows⟩, hbl, z⟩ := hrel
    by_cases hk : k < n
    case neg =>
      obtain rfl : k = n := by omega
      have HR := hid hrows
      clear hrows
      go_wp2_with fail
      go_ret2
      exact ⟨Or.inl ⟨hM.out, _, rfl, vs, ho, HR.out⟩, hbl⟩
    obtain ⟨b, off, rfl, hlt, hat⟩ := (HL.out.below hbl).2.2 (by omega)
    obtain ⟨c0, c1, c2⟩ := hat k hk
    obtain ⟨Aa, ca, rfl, hca, hva⟩ := hv.sl
    have hmr := ahd_mr cts l nc k hM.out
    have KP := hid (fun W h1 h2 => period_c cts As Ac Ak Aa ns cs nc cc nk ck ca lim rnd (l.getD k bs0).c (l.getD k bs0).t (l.getD k bs0).s (ahd cts l nc k) W h1 HOK.out h2 hmr hn)
    have HP : Hid (∀ W e w', PerR cts ⟨(l.getD k bs0).c, (l.getD k bs0).t, (l.getD k bs0).s⟩ (ahd cts l nc k) nc W e w' →
       ((okY cts l nc k = true ∧ ∃ v vn, e = .returned (.tuple #[v, vn, .int .i64 0]) ∧ OwnS w' W.heap.size v nc (rowY cts l nc k) ∧ OwnI w' W.heap.size vn nc (ahd cts l nc (k + 1))) ∨
   (okY cts l nc k = false ∧ e = .returned (.tuple #[.slice none 0 0, .slice none 0 0, .int .i64 10]))) ∧ Below W.heap.size W w') := fun W e w' h => h
    have HR := hid hrows
    have HV := hid hv
    have HA := hid hva
    clear hat hmr hrows hv hva
    generalize (l.getD k bs0).c = bc at *
    generalize (l.getD k bs0).t = bt at *
    generalize (l.getD k bs0).s = bs at *
    have z1 := z.alloc (.cells #[.int .i64 bc, .int .i64 bt, .int .i64 bs] 41)
    have hb1 := bA hbl (.cells #[.int .i64 bc, .int .i64 bt, .int .i64 bs] 41)
    have HO := hid (ho.alloc (.cells #[.int .i64 bc, .int .i64 bt, .int .i64 bs] 41))
    have HA1 := hid (HA.out.below (below1 wr (.cells #[.int .i64 bc, .int .i64 bt, .int .i64 bs] 41)))
    obtain ⟨p0, p1, p2, p3, p4⟩ := z1.all5
    have hsz := hbl.size
    go_wp2_with fail
    refine (KP.out _ (HS.out.below hb1) HA1.out).mono ?_
    intro e w1 hper
    obtain ⟨⟨hyes, vr, vn, rfl, hvr, hvn⟩ | ⟨hno, rfl⟩, hbp⟩ := HP.out _ _ _ hper
    case inr =>
      clear hper
      have HN := hid hno
      clear hno
      go_wp2_with fail
      go_ret2
      exact ⟨Or.inr ⟨⟨k, hk, HN.out⟩, rfl⟩, bT hb1 hbp⟩
    clear hper
    obtain ⟨Ar, cr, rfl⟩ := oL9 hvr.2
    have HY := hid hyes
    have HVR := hid hvr
    have HVN := hid hvn
    have z2 := z1.t hbp
    have hb2 := bT hb1 hbp
    have HO2 := hid (oB9 HO.out hbp)
    have hs2 := hb2.size
    clear hyes hvr hvn
    go_wp2_with (at_builtin; refine wa9 _ rfl _ _ 226 rfl 71 _ 1 24 underlying226 info_row rfl (by decide) rfl HO2.out _ rfl (by first | rfl | simp) rfl (by simp [Value.oneCell']) (by omega) (by omega) (by first | omega | (simp; omega)) ?_; intro v' w11 ho' hg)
    go_roundw
    case rel =>
      have hls : vs.length = k := by simpa using ho.1
      refine ⟨k + 1, by omega, by go_num, fun j hj => ?_, ⟨HVN.out.1, ?_⟩, ⟨vs ++ [.slice Ar nc cr], ?_, fun j hj => ?_⟩, bP hb2 HO2.out hg (Nat.le_refl _), z2.grown hg (own_blk HO2.out z2 (by decide))⟩
      · rcases (by omega : j = k ∨ j < k) with rfl | hj
        · exact HY.out
        · exact hM.out j hj
      · have := HVN.out.2.kept hg (own_own HVN.out.2 HO2.out (by decide))
        exact oM9 this (by simp; omega)
      · simpa using ho'
      · rcases (by omega : j = k ∨ j < k) with rfl | hj
        · refine ⟨_, getElem_snoc _ _ _ hls, HVR.out.1, ?_⟩
          have := HVR.out.2.kept hg (own_own HVR.out.2 HO2.out (by decide))
          exact oM9 this (by simp; omega)
        · obtain ⟨u, h3, h4, h5⟩ := HR.out j hj
          have h6 := oB9 (oB9 h5 (below1 wr (.cells #[.int .i64 bc, .int .i64 bt, .int .i64 bs] 41))) hbp
          exact ⟨u, by rw [List.getElem?_append_left (by omega)]; exact h3, h4, h6.kept hg (own_own h6 HO2.out (by decide))⟩
    case measure => simp [intOf]; omega
theorem str_dec (a b : ByteArray) : (a.toList == b.toList) = decide (a = b) := by
 by_cases h : a = b
 ·
  subst h; simp
 ·
  rw [decide_eq_false h, str_neqk h]
theorem getD_get {α : Type} {l : List α} {d : α} {k : Nat} (h : k < l.length) : l.getD k d = l[k] := by simp [List.getD, List.getElem?_eq_getElem h]
def nmX {α : Type} (f : α → ByteArray) (l : List α) (nm : ByteArray) : Int := match l.findIdx? (fun x => decide (f x = nm)) with
 | some k => (k : Int)
 | none => -1
theorem nmX_at {α : Type} {f : α → ByteArray} {d : α} {l : List α} {nm : ByteArray} {k : Nat} (hk : k < l.length) (h1 : f (l.getD k d) = nm) (h2 : ∀ j, j < k → f (l.getD j d) ≠ nm) : nmX f l nm = k := by
 have e : l.findIdx? (fun x => decide (f x = nm)) = some k := by
  rw [List.findIdx?_eq_some_iff_getElem]
  refine ⟨hk, ?_, fun j hj => ?_⟩
  ·
   rw [getD_get hk] at h1
   simpa using h1
  ·
   have := h2 j hj
   rw [getD_get (Nat.lt_trans hj hk)] at this
   simpa using this
 unfold nmX
 rw [e]
theorem nmX_no {α : Type} {f : α → ByteArray} {d : α} {l : List α} {nm : ByteArray} (h2 : ∀ j, j < l.length → f (l.getD j d) ≠ nm) : nmX f l nm = -1 := by
 have e : l.findIdx? (fun x => decide (f x = nm)) = none := by
  rw [List.findIdx?_eq_none_iff]
  intro x hx
  obtain ⟨j, hj, rfl⟩ := List.getElem_of_mem hx
  have := h2 j hj
  rw [getD_get hj] at this
  simpa using this
 unfold nmX
 rw [e]
/-! ### the errors' numbers -/
def ctE (pre : List Ct) (x : Ct) : Int :=
 if nameB x.nm = false then 5 else if 0 ≤ nmX Ct.nm pre x.nm then 4 else if x.base ≠ 1 ∧ x.base ≠ 2 then 1 else if modeB x.rd = false then 1
 else if x.pc < 0 then 1 else if 100000000000 < x.pc then 1 else if x.yc < 0 then 1 else if 100000000000 < x.yc then 1 else bE9 x.bands
def ctsF (l : List Ct) (k : Nat) : Int := ctE (l.take k) (l.getD k ct0)
def ctsE (l : List Ct) : Int := if 6 < l.length then 2 else fz9 (ctsF l) l.length
def kdE1 (pre : List Kd) (x : Kd) : Int :=
 if nameB x.nm = false then 5 else if 0 ≤ nmX Kd.nm pre x.nm then 4 else if decide (-1 ≤ x.c ∧ x.c ≤ 1) = false then 1 else if decide (-1 ≤ x.t ∧ x.t ≤ 1) = false then 1 else if decide (-1 ≤ x.s ∧ x.s ≤ 1) = false then 1 else 0
def kdsF (l : List Kd) (k : Nat) : Int := kdE1 (l.take k) (l.getD k kd0)
def kdsE (l : List Kd) : Int := if l.length = 0 ∨ 12 < l.length then 2 else fz9 (kdsF l) l.length
def scE1 (x : List Bd) : Int := if bE9 x ≠ 0 then bE9 x else if ∃ i, i < x.length ∧ (x.getD i bd0).e ≠ 0 then 50 else 0
def scsF (l : List (List Bd)) (k : Nat) : Int := scE1 (l.getD k [])
def scsE (l : List (List Bd)) : Int := if l.length = 0 ∨ 8 < l.length then 2 else fz9 (scsF l) l.length
def tbE (t : Tb) : Int := if rateB t.lim = false then 50 else if modeB t.rnd = false then 1 else if scsE t.sch ≠ 0 then scsE t.sch else if ctsE t.cts ≠ 0 then ctsE t.cts else kdsE t.kds
theorem xclos_contribs (x : Ct) (B : Nat) (A : Option Addr) (n c : Nat) (nm : ByteArray) (w : World) (hB : B < w.heap.size) (h : w.cell? ⟨B, 0, none⟩ = some (.string nm)) :
  Calls prog 189 #[.agg #[.string x.nm, .int .i64 x.base, .slice A n c, .int .i64 x.pc, .int .i64 x.yc, .int .i64 x.rd], .pointer (some ⟨B, 0, none⟩)] w fun e w' => e = .returned (.bool (decide (x.nm = nm))) ∧ Below w.heap.size w w' := by
 have h' : ∀ o, (w.alloc o).cell? ⟨B, 0, none⟩ = some (.string nm) := fun o => by rw [World.cell?_alloc_lt _ _ _ hB]; exact h
 go_enter func189, ntmps189
 go_wp2
 go_ret
 exact ⟨rb9 (str_dec _ _), below1 _ _⟩
theorem xclos_kinds (x : Kd) (B : Nat) (nm : ByteArray) (w : World) (hB : B < w.heap.size) (h : w.cell? ⟨B, 0, none⟩ = some (.string nm)) :
  Calls prog 191 #[.agg #[.string x.nm, .int .i64 x.c, .int .i64 x.t, .int .i64 x.s], .pointer (some ⟨B, 0, none⟩)] w fun e w' => e = .returned (.bool (decide (x.nm = nm))) ∧ Below w.heap.size w w' := by
 have h' : ∀ o, (w.alloc o).cell? ⟨B, 0, none⟩ = some (.string nm) := fun o => by rw [World.cell?_alloc_lt _ _ _ hB]; exact h
 go_enter func191, ntmps191
 go_wp2
 go_ret
 exact ⟨rb9 (str_dec _ _), below1 _ _⟩
theorem xindex_contribs (l : List Ct) (A : Option Addr) (n c B : Nat) (nm : ByteArray) (w : World) (hs : CtSl w A n l) (hB : B < w.heap.size) (h : w.cell? ⟨B, 0, none⟩ = some (.string nm)) (r : Int) (hr : Hid (r = nmX Ct.nm l nm)) :
  Calls prog 202 #[.slice A n c, .func (.func 189) #[] #[.pointer (some ⟨B, 0, none⟩)]] w fun e w' => e = .returned (.int .i64 r) ∧ Below w.heap.size w w' := by
 obtain ⟨hn, hm, hc⟩ := hs
 have HC := hid hc
 have HN := hid hn
 clear hc hn
 go_enter func202, ntmps202
 go_wp2_with fail
 go_loopw [8] (fun i wr => ∃ k : Nat, k ≤ n ∧ i = .int .i64 k ∧ Hid (∀ j, j < k → (l.getD j ct0).nm ≠ nm) ∧ Below w.heap.size w wr) (fun i _ => n - (intOf i).toNat)
 case atStart => exact ⟨0, Nat.zero_le _, rfl, fun j hj => absurd hj (Nat.not_lt_zero _), Below.refl _ _⟩
 case round =>
  obtain ⟨k, hk', rfl, HJ, hbl⟩ := hrel
  by_cases hk : k < n
  case neg =>
   have HE : Hid (r = -1) := hr.out.trans (nmX_no fun j hj => HJ.out j (by have := HN.out; omega))
   go_wp2_with fail
   go_ret
   exact ⟨by rw [HE.out] <;> rfl, hbl⟩
  obtain ⟨b, off, rfl, hlt, hat⟩ := HC.out (by omega)
  obtain ⟨c0, _, c1, ⟨A', n', c', c2, _⟩, c3, c4, c5⟩ := (hat k hk).below hlt hbl
  have hB' : B < wr.heap.size := Nat.lt_of_lt_of_le hB hbl.size
  have hcap := (hbl.cell (p := ⟨B, 0, none⟩) hB).trans h
  have K := hid (xclos_contribs (l.getD k ct0) B A' n' c' nm · )
  have HY : Hid ((l.getD k ct0).nm = nm → r = k) := fun h => hr.out.trans (nmX_at (d := ct0) (by have := HN.out; omega) h HJ.out)
  have HZ : Hid ((l.getD k ct0).nm ≠ nm → ∀ j, j < k + 1 → (l.getD j ct0).nm ≠ nm) := fun h j hj => by
   rcases (by omega : j = k ∨ j < k) with rfl | hj
   ·
    exact h
   ·
    exact HJ.out j hj
  generalize l.getD k ct0 = x at *
  clear hat
  by_cases hy : x.nm = nm
  ·
   have t1 := decide_eq_true hy
   have HE := hid (HY.out hy)
   have K1 := hid (fun w hB h => t1 ▸ K.out w hB h)
   clear hy t1 K
   go_wp2_with fail
   refine (K1.out _ hB' hcap).mono ?_
   rintro e w1 ⟨rfl, hb1⟩
   have b1 : Below w.heap.size w w1 := hbl.trans (hb1.mono hbl.size)
   go_wp2_with fail
   go_ret
   exact ⟨by rw [HE.out] <;> rfl, b1⟩
  ·
   have t1 := decide_eq_false hy
   have HE := hid (HZ.out hy)
   have K1 := hid (fun w hB h => t1 ▸ K.out w hB h)
   clear hy t1 K
   go_wp2_with fail
   refine (K1.out _ hB' hcap).mono ?_
   rintro e w1 ⟨rfl, hb1⟩
   have b1 : Below w.heap.size w w1 := hbl.trans (hb1.mono hbl.size)
   go_wp2_with fail
   go_roundw
   case rel => exact ⟨k + 1, by omega, by go_num, HE.out, b1⟩
   case measure => simp [intOf]; omega
theorem xindex_kinds (l : List Kd) (A : Option Addr) (n c B : Nat) (nm : ByteArray) (w : World) (hs : KdSl w A n l) (hB : B < w.heap.size) (h : w.cell? ⟨B, 0, none⟩ = some (.string nm)) (r : Int) (hr : Hid (r = nmX Kd.nm l nm)) :
  Calls prog 203 #[.slice A n c, .func (.func 191) #[] #[.pointer (some ⟨B, 0, none⟩)]] w fun e w' => e = .returned (.int .i64 r) ∧ Below w.heap.size w w' := by
 obtain ⟨hn, hm, hc⟩ := hs
 have HC := hid hc
 have HN := hid hn
 clear hc hn
 go_enter func203, ntmps203
 go_wp2_with fail
 go_loopw [8] (fun i wr => ∃ k : Nat, k ≤ n ∧ i = .int .i64 k ∧ Hid (∀ j, j < k → (l.getD j kd0).nm ≠ nm) ∧ Below w.heap.size w wr) (fun i _ => n - (intOf i).toNat)
 case atStart => exact ⟨0, Nat.zero_le _, rfl, fun j hj => absurd hj (Nat.not_lt_zero _), Below.refl _ _⟩
 case round =>
  obtain ⟨k, hk', rfl, HJ, hbl⟩ := hrel
  by_cases hk : k < n
  case neg =>
   have HE : Hid (r = -1) := hr.out.trans (nmX_no fun j hj => HJ.out j (by have := HN.out; omega))
   go_wp2_with fail
   go_ret
   exact ⟨by rw [HE.out] <;> rfl, hbl⟩
  obtain ⟨b, off, rfl, hlt, hat⟩ := HC.out (by omega)
  obtain ⟨c0, _, c1, c2, c3⟩ := (hat k hk).below hlt hbl
  have hB' : B < wr.heap.size := Nat.lt_of_lt_of_le hB hbl.size
  have hcap := (hbl.cell (p := ⟨B, 0, none⟩) hB).trans h
  have K := hid (xclos_kinds (l.getD k kd0) B nm · )
  have HY : Hid ((l.getD k kd0).nm = nm → r = k) := fun h => hr.out.trans (nmX_at (d := kd0) (by have := HN.out; omega) h HJ.out)
  have HZ : Hid ((l.getD k kd0).nm ≠ nm → ∀ j, j < k + 1 → (l.getD j kd0).nm ≠ nm) := fun h j hj => by
   rcases (by omega : j = k ∨ j < k) with rfl | hj
   ·
    exact h
   ·
    exact HJ.out j hj
  generalize l.getD k kd0 = x at *
  clear hat
  by_cases hy : x.nm = nm
  ·
   have t1 := decide_eq_true hy
   have HE := hid (HY.out hy)
   have K1 := hid (fun w hB h => t1 ▸ K.out w hB h)
   clear hy t1 K
   go_wp2_with fail
   refine (K1.out _ hB' hcap).mono ?_
   rintro e w1 ⟨rfl, hb1⟩
   have b1 : Below w.heap.size w w1 := hbl.trans (hb1.mono hbl.size)
   go_wp2_with fail
   go_ret
   exact ⟨by rw [HE.out] <;> rfl, b1⟩
  ·
   have t1 := decide_eq_false hy
   have HE := hid (HZ.out hy)
   have K1 := hid (fun w hB h => t1 ▸ K.out w hB h)
   clear hy t1 K
   go_wp2_with fail
   refine (K1.out _ hB' hcap).mono ?_
   rintro e w1 ⟨rfl, hb1⟩
   have b1 : Below w.heap.size w w1 := hbl.trans (hb1.mono hbl.size)
   go_wp2_with fail
   go_roundw
   case rel => exact ⟨k + 1, by omega, by go_num, HE.out, b1⟩
   case measure => simp [intOf]; omega
theorem xcontains_contribs (l : List Ct) (A : Option Addr) (n c B : Nat) (nm : ByteArray) (w : World) (hs : CtSl w A n l) (hB : B < w.heap.size) (h : w.cell? ⟨B, 0, none⟩ = some (.string nm)) :
  Calls prog 188 #[.slice A n c, .func (.func 189) #[] #[.pointer (some ⟨B, 0, none⟩)]] w fun e w' => e = .returned (.bool (decide (0 ≤ nmX Ct.nm l nm))) ∧ Below w.heap.size w w' := by
 obtain ⟨r, hr⟩ : ∃ r, r = nmX Ct.nm l nm := ⟨_, rfl⟩
 have K := hid (xindex_contribs l A n c B nm w hs hB h r hr)
 rw [← hr]
 clear hr
 go_enter func188, ntmps188
 go_wp2_with fail
 refine K.out.mono ?_
 rintro e w1 ⟨rfl, hb1⟩
 go_wp2_with fail
 go_ret
 exact ⟨rb9 (by simp), hb1⟩
theorem xcontains_kinds (l : List Kd) (A : Option Addr) (n c B : Nat) (nm : ByteArray) (w : World) (hs : KdSl w A n l) (hB : B < w.heap.size) (h : w.cell? ⟨B, 0, none⟩ = some (.string nm)) :
  Calls prog 190 #[.slice A n c, .func (.func 191) #[] #[.pointer (some ⟨B, 0, none⟩)]] w fun e w' => e = .returned (.bool (decide (0 ≤ nmX Kd.nm l nm))) ∧ Below w.heap.size w w' := by
 obtain ⟨r, hr⟩ : ∃ r, r = nmX Kd.nm l nm := ⟨_, rfl⟩
 have K := hid (xindex_kinds l A n c B nm w hs hB h r hr)
 rw [← hr]
 clear hr
 go_enter func190, ntmps190
 go_wp2_with fail
 refine K.out.mono ?_
 rintro e w1 ⟨rfl, hb1⟩
 go_wp2_with fail
 go_ret
 exact ⟨rb9 (by simp), hb1⟩
theorem splice_at {α : Type} (X Z Y : List α) (h : Y.length ≤ Z.length) : splice (X ++ Z) X.length Y = X ++ (Y ++ Z.drop Y.length) := by
 unfold splice
 rw [List.take_left, List.drop_append]
 simp
theorem SrcAt.take {w : World} {A : Option Addr} {n size : Nat} {xs : List Value} (h : SrcAt w A n size xs) {i : Nat} (hi : i ≤ n) : SrcAt w A i size (xs.take (i * size)) := by
 refine ⟨?_, fun h0 => ?_⟩
 ·
  rw [List.length_take, h.1]
  exact Nat.min_eq_left (Nat.mul_le_mul_right _ hi)
 ·
  obtain ⟨b, off, hA, hlt, hc⟩ := h.2 (by omega)
  refine ⟨b, off, hA, hlt, fun j u hu => ?_⟩
  have hj := (List.getElem?_eq_some_iff.1 hu).1
  rw [List.length_take] at hj
  rw [List.getElem?_take_of_lt (by omega)] at hu
  exact hc j u hu
theorem SrcAt.drop {w : World} {b off n size : Nat} {xs : List Value} (h : SrcAt w (some ⟨b, off, none⟩) n size xs) {i : Nat} (hi : i < n) : SrcAt w (some ⟨b, off + i * size, none⟩) (n - i) size (xs.drop (i * size)) := by
 refine ⟨by rw [List.length_drop, h.1, Nat.sub_mul], fun h0 => ?_⟩
 obtain ⟨b', off', hA, hlt, hc⟩ := h.2 (by omega)
 injection hA with hA
 injection hA with h1 h2
 subst h1; subst h2
 refine ⟨b, _, rfl, hlt, fun j u hu => ?_⟩
 rw [List.getElem?_drop] at hu
 rw [Nat.add_assoc]
 exact hc _ u hu
theorem odC_flat (l : List Od) : (l.flatMap odC).length = l.length * 7 := by
 induction l with
 | nil => rfl
 | cons x l ih => rw [List.flatMap_cons, List.length_append, ih, odC_len, List.length_cons]; omega
theorem odC_take (l : List Od) (i : Nat) (hi : i ≤ l.length) : (l.flatMap odC).take (i * 7) = (l.take i).flatMap odC := by
 have h : l.flatMap odC = (l.take i).flatMap odC ++ (l.drop i).flatMap odC := by rw [← List.flatMap_append, List.take_append_drop]
 have h2 : ((l.take i).flatMap odC).length = i * 7 := by rw [odC_flat, List.length_take, Nat.min_eq_left hi]
 rw [h, ← h2, List.take_left]
theorem odC_drop (l : List Od) (i : Nat) (hi : i ≤ l.length) : (l.flatMap odC).drop (i * 7) = (l.drop i).flatMap odC := by
 have h : l.flatMap odC = (l.take i).flatMap odC ++ (l.drop i).flatMap odC := by rw [← List.flatMap_append, List.take_append_drop]
 have h2 : ((l.take i).flatMap odC).length = i * 7 := by rw [odC_flat, List.length_take, Nat.min_eq_left hi]
 rw [h, ← h2, List.drop_left]
theorem OdSl.nil {w : World} {A : Option Addr} {n : Nat} {l : List Od} (h : OdSl w A n l) : A = none → n = 0 := fun hA => by
 rcases Nat.eq_zero_or_pos n with h0 | h0
 ·
  exact h0
 ·
  obtain ⟨b, off, h, _⟩ := h.2.2 h0
  rw [hA] at h; cases h
theorem sclip_c (A : Option Addr) (n c : Nat) (hc : n ≤ c) (h9 : n ≤ 9223372036854775807) (hA : A = none → c = 0) (w : World) : Calls prog 117 #[.slice A n c] w fun e w' => e = .returned (.slice A n n) ∧ w = w' := by
 have h1 : ¬ c < n := by omega
 cases A with
 | none =>
  obtain rfl := hA rfl
  obtain rfl : n = 0 := by omega
  go_enter func117, ntmps117
  go_wp2_with fail
  go_ret
  exact ⟨rfl, rfl⟩
 | some a =>
  clear hA
  go_enter func117, ntmps117
  go_wp2_with fail
  go_ret
  exact ⟨rfl, rfl⟩
theorem insO_at (l : List Od) (z : Od) (i : Nat) : (l.take i ++ z :: l.drop i).flatMap odC = (l.take i).flatMap odC ++ (odC z ++ (l.drop i).flatMap odC) := by
 rw [List.flatMap_append, List.flatMap_cons]
theorem sinsert_c (A : Option Addr) (n i : Nat) (l : List Od) (z : Od) (vb : Nat) (w : World) (hs : OdSl w A n l) (hi : i ≤ n) (hn : n ≤ 1000000) (hv : Blk w vb 213 (odC z).toArray) (lr : List Od) (hlr : Hid (lr = l.take i ++ z :: l.drop i)) :
  Calls prog 116 #[.slice A n n, .int .i64 i, .slice (some ⟨vb, 0, none⟩) 1 1] w (GivesOd (n + 1) lr w) := by
 have hln := hs.1
 have hzs : SrcAt w (some ⟨vb, 0, none⟩) 1 7 (odC z) := ⟨rfl, fun _ => ⟨vb, 0, rfl, hv.lt, fun j u hu => by rw [Nat.zero_add, hv.cell j]; simpa using hu⟩⟩
 have hz1 : ∀ u ∈ odC z, u.oneCell' = true := fun u hu => od_one (l := [z]) u (by simpa using hu)
 have hsrc := hs.src odC_len
 obtain ⟨i0, hi', hz', hsz', hby⟩ := info_parts info_state
 by_cases hin : i = n
 ·
  subst hin
  have hA := hs.nil
  have hh : ∀ b, A = some b → ∀ j u, (l.flatMap odC)[j]? = some u → w.cell? (b.add j) = some u := fun b hb j u hu => by
   rcases Nat.eq_zero_or_pos i with h0 | h0
   ·
    have : l.flatMap odC = [] := List.eq_nil_of_length_eq_zero (by rw [odC_flat, ← hln, h0])
    rw [this] at hu; simp at hu
   ·
    obtain ⟨a, ha, hc⟩ := hsrc.load h0
    rw [hb] at ha; injection ha with ha; subst ha
    exact hc j u hu
  have hzc : ∀ j u, (odC z)[j]? = some u → w.cell? ((⟨vb, 0, none⟩ : Addr).add j) = some u := fun j u hu => by
   rw [add_plain, Nat.zero_add, hv.cell j]; simpa using hu
  have HH := hid hh
  have HZ := hid hzc
  have HLN : Hid (i = l.length) := hln
  have HA : Hid (A = none → i = 0 ∧ i = 0) := fun h => ⟨hA h, hA h⟩
  have HLL : Hid ((l.flatMap odC).length = i * 7) := by unfold Hid; rw [odC_flat, ← hln]
  have HE : Hid (lr = l ++ [z]) := by unfold Hid; rw [hlr.out, hln, List.take_length, List.drop_length]
  have HI := hid hi'
  have HZ1 := hid hz1
  have HZZ := hid hz'
  have HS7 := hid hsz'
  have HB7 := hid hby
  clear hh hzc hln hA hzs hsrc hs hv hi' hz1 hz' hsz' hby
  cases hAA : A with
  | none =>
   subst hAA
   obtain ⟨rfl, _⟩ := HA.out rfl
   go_enter func116, ntmps116
   go_wp2_with (at_builtin; refine wpList_append_grows _ rfl _ _ 141 rfl 213 i0 _ 7 56 underlying141 HI.out HZZ.out HS7.out HB7.out rfl (by decide) _ _ _ (l.flatMap odC) rfl (fun _ => ⟨rfl, rfl⟩) HLL.out HH.out ⟨vb, 0, none⟩ 1 1 (odC z) rfl rfl HZ.out HZ1.out (by omega) (by unfold maxLen; omega) (by omega) ?_; intro v' w' ho hg)
   go_ret
   rw [HE.out]
   exact ⟨⟨_, rfl, by rw [List.length_append, ← HLN.out]; rfl, by simpa [List.flatMap_append] using ho⟩, below_grown (b0 _) hg (Nat.le_refl _) (by simp)⟩
  | some a =>
   subst hAA
   have vi : ¬ (i < i) := by omega
   go_enter func116, ntmps116
   go_wp2_with (at_builtin; refine wpList_append_grows _ rfl _ _ 141 rfl 213 i0 _ 7 56 underlying141 HI.out HZZ.out HS7.out HB7.out rfl (by decide) _ _ _ (l.flatMap odC) rfl HA.out HLL.out HH.out ⟨vb, 0, none⟩ 1 1 (odC z) rfl rfl HZ.out HZ1.out (by omega) (by unfold maxLen; omega) (by omega) ?_; intro v' w' ho hg)
   go_ret
   rw [HE.out]
   exact ⟨⟨_, rfl, by rw [List.length_append, ← HLN.out]; rfl, by simpa [List.flatMap_append] using ho⟩, below_grown (b0 _) hg (Nat.le_refl _) (by simp)⟩
 have hil : i < n := by omega
 obtain ⟨b, off, rfl, hltb, _⟩ := hs.2.2 (by omega)
 obtain ⟨k, hk⟩ : ∃ k, k = n + 1 - i := ⟨_, rfl⟩
 have hki : (k : Int) = (n : Int) + 1 - (i : Int) := by omega
 obtain ⟨v1, w1, hr1, ho1, hg1⟩ := run_appZ_own (P := prog) w 141 3 141 213 _ 7 56 .i64 .i64 underlying141 underlying3 info_state rfl (by decide) (some ⟨b, off, none⟩) i n ((l.flatMap odC).take (i * 7)) (hsrc.take hi) k (by omega) (by omega) (by omega) (by omega)
 rw [hki] at hr1
 obtain ⟨g1, cap1, rfl, hb1, hlt1, hcap1, ho1'⟩ := own_form ho1 (by omega)
 have hik : i + k = n + 1 := by omega
 rw [hik] at hr1 ho1 ho1' hcap1
 have hbl1 : Below w.heap.size w w1 := below_grown (b0 _) hg1 (Nat.le_refl _) (by simp)
 have hzs1 := hzs.below hbl1
 have hX : ((l.flatMap odC).take (i * 7)).length = i * 7 := by rw [List.length_take, odC_flat, ← hln]; omega
 obtain ⟨Z, hZ⟩ : ∃ Z, Z = (Builtin.zeroCells (Value.agg #[.int .i64 0, .int .i64 0, .int .i64 0, .int .i64 0, .int .i64 0, .int .i64 0, .int .i64 0]).cells k).toList := ⟨_, rfl⟩
 have hZl : Z.length = k * 7 := by rw [hZ, Array.length_toList, size_zeroCells]; rfl
 rw [← hZ] at ho1'
 obtain ⟨w2, hr2, ho2, hg2⟩ := run_copy_ownK (P := prog) w1 141 141 3 213 underlying141 (by rw [hi']; exact congrArg some hsz') (by decide) ho1' (i * 7) (n + 1 - i) (cap1 - i) (some ⟨vb, 0, none⟩) 1 1 (odC z) hzs1 hz1 (by omega) (by rw [odC_len]; omega)
 have hbl2 : Below w.heap.size w w2 := below_grown hbl1 hg2 hbl1.size (fun q hq => by injection hq with hq; omega)
 have hsp := splice_at ((l.flatMap odC).take (i * 7)) Z (odC z) (by rw [odC_len, hZl]; omega)
 rw [hX] at hsp
 rw [hsp] at ho2
 have hdr := (hsrc.drop hil).below hbl2
 have ho2d : w2.drew.ownsRow w.heap.size 213 7 (.slice (some ⟨g1, 0, none⟩) (n + 1) cap1) (n + 1) ((l.flatMap odC).take (i * 7) ++ (odC z ++ Z.drop (odC z).length)) := ho2
 obtain ⟨w3, hr3, ho3, hg3⟩ := run_copy_ownK (P := prog) w2.drew 141 141 3 213 underlying141 (by rw [hi']; exact congrArg some hsz') (by decide) ho2d ((i + 1) * 7) (n - i) (cap1 - (i + 1)) (some ⟨b, off + i * 7, none⟩) (n - i) (n - i) ((l.flatMap odC).drop (i * 7)) hdr (fun u hu => od_one u (List.mem_of_mem_drop hu)) (by omega) (by rw [List.length_drop, odC_flat, ← hln]; omega)
 have hbl3 : Below w.heap.size w w3 := below_grown (bD hbl2 1) hg3 hbl2.size (fun q hq => by injection hq with hq; omega)
 have hsp2 := splice_at ((l.flatMap odC).take (i * 7) ++ odC z) (Z.drop (odC z).length) ((l.flatMap odC).drop (i * 7)) (by rw [List.length_drop, List.length_drop, odC_flat, ← hln, hZl, odC_len]; omega)
 have hX2 : ((l.flatMap odC).take (i * 7) ++ odC z).length = (i + 1) * 7 := by rw [List.length_append, hX, odC_len]; omega
 have hnil : (Z.drop (odC z).length).drop ((l.flatMap odC).drop (i * 7)).length = [] := List.drop_eq_nil_of_le (by rw [List.length_drop, List.length_drop, odC_flat, ← hln, hZl, odC_len]; omega)
 rw [hX2, hnil, List.append_nil, List.append_assoc, List.append_assoc] at hsp2
 rw [hsp2, odC_take l i (by omega), odC_drop l i (by omega), ← insO_at, ← hlr.out] at ho3
 have HO3 := hid ho3
 have HB3 := hid hbl3
 have HR1 := hid hr1
 have HR2 := hid hr2
 have HR3 := hid hr3
 have HLN : Hid (n + 1 = lr.length) := by unfold Hid; rw [hlr.out, List.length_append, List.length_cons, List.length_take, List.length_drop]; omega
 have vin : ((i : Int) == (n : Int)) = false := by simp; omega
 have e1 : ¬ n = i := by omega
 have e2 : ¬ cap1 = i := by omega
 have e3 : ¬ cap1 = i + 1 := by omega
 have e4 : (i : Int) ≤ (n : Int) := by omega
 clear hs hsrc hzs hz1 hln hv ho1 ho1' ho2 ho2d ho3 hsp hsp2 hX hX2 hnil hZ hZl hdr hzs1 hr1 hr2 hr3 hg1 hg2 hg3 hbl1 hbl2 hbl3 hk hki hik hi' hz' hsz' hby hin
 go_enter func116, ntmps116
 go_wp2_with (first | (at_builtin; refine wpList_appR _ rfl _ _ 141 3 rfl _ _ rfl rfl _ w1 HR1.out ?_) | (refine wpList_copyR _ rfl _ _ 141 141 rfl _ _ rfl rfl _ w2 HR2.out ?_))
 have hw1 : IntKind.i64.wrap ((i : Int) + 1) = (i : Int) + 1 := IntWalk.i64_in _ (by omega)
 have hw2 : (0 : Int) ≤ (i : Int) + 1 := by omega
 have hw3 : ((i : Int) + 1).toNat = i + 1 := by omega
 have hw4 : (i : Int) + 1 ≤ (n : Int) + 1 := by omega
 go_region_law (refine step_copyR rfl _ _ 141 141 rfl _ _ (by simp [Act.eval, Act.put]) (by simp [Act.eval, Act.put]) _ w3 HR3.out ?_)
 clear hw1 hw2 hw3 hw4
 go_wp2_with fail
 go_ret
 exact ⟨⟨_, rfl, HLN.out, HO3.out⟩, HB3.out⟩
theorem sgrow_c (n : Nat) (w : World) (hn : n ≤ 1000000) : Calls prog 156 #[.slice none 0 0, .int .i64 n] w (GivesOd 0 [] w) := by
 by_cases h0 : n = 0
 ·
  subst h0
  go_enter func156, ntmps156
  go_wp2_with fail
  go_ret
  exact ⟨⟨_, rfl, rfl, World.ownsRow_nil _ _ _ _⟩, b0 _⟩
 ·
  obtain ⟨v1, w1, hr1, ho1, hg1⟩ := run_appZ_own (P := prog) w 141 3 141 213 _ 7 56 .i64 .i64 underlying141 underlying3 info_state rfl (by decide) none 0 0 [] ⟨rfl, fun h => absurd h (by omega)⟩ n (by omega) (by omega) (by omega) (by omega)
  obtain ⟨g1, cap1, rfl, hb1, hlt1, hcap1, ho1'⟩ := own_form ho1 (by omega)
  have HR1 := hid hr1
  have HB1 : Hid (Below w.heap.size w w1) := below_grown (b0 _) hg1 (Nat.le_refl _) (by simp)
  have HO1 : Hid (w1.ownsRow w.heap.size 213 7 (.slice (some ⟨g1, 0, none⟩) 0 cap1) 0 []) := by
   rw [Nat.zero_add] at ho1'
   obtain ⟨_, h2 | ⟨g', cap', cur, hv, hb, hg, hle2, hm, hsz, ht⟩⟩ := ho1'
   ·
    cases h2.1
   ·
    injection hv with hA _ hc
    injection hA with hA
    injection hA with hg' _
    subst hg'; subst hc
    exact ⟨rfl, .inr ⟨g1, cap1, cur, rfl, hb, hg, Nat.zero_le _, hm, hsz, by simp⟩⟩
  have v : decide ((0 : Int) < (n : Int)) = true := by simp; omega
  clear ho1 ho1' hr1 hg1
  go_enter func156, ntmps156
  go_wp2_with (at_builtin; refine wpList_appR _ rfl _ _ 141 3 rfl _ _ rfl rfl _ w1 HR1.out ?_)
  go_ret
  exact ⟨⟨_, rfl, rfl, HO1.out⟩, HB1.out⟩
theorem sconcat_c (h : Nat) (A1 A2 : Option Addr) (n1 c1 n2 c2 : Nat) (l1 l2 : List Od) (w : World) (hh : Blk w h 141 #[.slice A1 n1 c1, .slice A2 n2 c2]) (hs1 : SrcAt w A1 n1 7 (l1.flatMap odC)) (hs2 : SrcAt w A2 n2 7 (l2.flatMap odC))
  (e1 : n1 = l1.length) (e2 : n2 = l2.length) (hn : n1 + n2 ≤ 1000000) (lr : List Od) (hlr : Hid (lr = l1 ++ l2)) :
  Calls prog 120 #[.slice (some ⟨h, 0, none⟩) 2 2] w (GivesOd (n1 + n2) lr w) := by
 have HS1 := hid hs1
 have HS2 := hid hs2
 have HH := hid hh
 have HE : Hid (n1 + n2 = lr.length ∧ lr.flatMap odC = l1.flatMap odC ++ l2.flatMap odC) := by unfold Hid; rw [hlr.out, List.length_append, List.flatMap_append]; exact ⟨by omega, rfl⟩
 obtain ⟨d0, d1⟩ : w.cell? ⟨h, 0, none⟩ = some (.slice A1 n1 c1) ∧ w.cell? ⟨h, 1, none⟩ = some (.slice A2 n2 c2) := ⟨hh.cell 0, hh.cell 1⟩
 have KG := hid (fun W => sgrow_c (n1 + n2) W hn)
 clear hs1 hs2 hh e1 e2
 go_enter func120, ntmps120
 go_wp2_with fail
 go_loop [3, 11] (fun z i => (i = .int .i64 0 ∧ z = .int .i64 0) ∨ (i = .int .i64 1 ∧ z = .int .i64 n1) ∨ (i = .int .i64 2 ∧ z = .int .i64 (n1 + n2 : Nat))) (fun _ i => 2 - (intOf i).toNat)
 case atStart => exact Or.inl ⟨rfl, rfl⟩
 case round =>
  rcases hrel with ⟨rfl, rfl⟩ | ⟨rfl, rfl⟩ | ⟨rfl, rfl⟩
  ·
   have v : ¬ ((n1 : Int) < 0) := by omega
   go_wp2_with fail
   go_round
   case rel => exact Or.inr (Or.inl ⟨rfl, rfl⟩)
   case measure => simp [intOf]
  ·
   have v : ¬ ((n1 : Int) + (n2 : Int) < 0) := by omega
   go_wp2_with fail
   go_round
   case rel => exact Or.inr (Or.inr ⟨rfl, by go_num⟩)
   case measure => simp [intOf]
  ·
   clear d0 d1
   go_wp2_with fail
   refine (KG.out _).mono ?_
   rintro e w1 ⟨⟨v1, rfl, ho1⟩, hb1⟩
   have HO1 := hid ho1.2
   clear ho1
   go_wp2_with fail
   go_loopw [6, 27] (fun v i wr => ((i = .int .i64 0 ∧ wr.ownsRow w.heap.size 213 7 v 0 []) ∨ (i = .int .i64 1 ∧ wr.ownsRow w.heap.size 213 7 v n1 (l1.flatMap odC)) ∨ (i = .int .i64 2 ∧ wr.ownsRow w.heap.size 213 7 v (n1 + n2) (l1.flatMap odC ++ l2.flatMap odC))) ∧ Below w.heap.size w wr) (fun _ i _ => 2 - (intOf i).toNat)
   case atStart => exact ⟨Or.inl ⟨rfl, HO1.out⟩, hb1⟩
   case round =>
    obtain ⟨⟨rfl, ho⟩ | ⟨rfl, ho⟩ | ⟨rfl, ho⟩, hbl⟩ := hrel
    ·
     have HO := hid ho
     have hsz := hbl.size
     have hhh := HH.out.t hbl
     obtain ⟨d0, d1⟩ : wr.cell? ⟨h, 0, none⟩ = some (.slice A1 n1 c1) ∧ wr.cell? ⟨h, 1, none⟩ = some (.slice A2 n2 c2) := ⟨hhh.cell 0, hhh.cell 1⟩
     have HSR := hid (HS1.out.below hbl)
     clear ho hhh
     go_wp2_with (at_builtin; refine wn9 _ rfl _ _ 141 rfl 213 _ 7 56 underlying141 info_state rfl (by decide) rfl HO.out _ _ _ _ rfl HSR.out od_one (by omega) (by omega) (by omega) ?_; intro v' w6 ho' hg)
     go_roundw
     case rel => exact ⟨Or.inr (Or.inl ⟨rfl, by simpa using ho'⟩), below_app hbl HO.out hg hsz (Nat.le_refl _)⟩
     case measure => simp [intOf]
    ·
     have HO := hid ho
     have hsz := hbl.size
     have hhh := HH.out.t hbl
     obtain ⟨d0, d1⟩ : wr.cell? ⟨h, 0, none⟩ = some (.slice A1 n1 c1) ∧ wr.cell? ⟨h, 1, none⟩ = some (.slice A2 n2 c2) := ⟨hhh.cell 0, hhh.cell 1⟩
     have HSR := hid (HS2.out.below hbl)
     clear ho hhh
     go_wp2_with (at_builtin; refine wn9 _ rfl _ _ 141 rfl 213 _ 7 56 underlying141 info_state rfl (by decide) rfl HO.out _ _ _ _ rfl HSR.out od_one (by omega) (by omega) (by omega) ?_; intro v' w6 ho' hg)
     go_roundw
     case rel => exact ⟨Or.inr (Or.inr ⟨rfl, ho'⟩), below_app hbl HO.out hg hsz (Nat.le_refl _)⟩
     case measure => simp [intOf]
    ·
     have HO := hid ho
     clear ho
     go_wp2_with fail
     go_ret
     exact ⟨⟨_, rfl, HE.out.1, by rw [HE.out.2]; exact HO.out⟩, hbl⟩
section
variable {w w' : World} {base : Nat} {sch : List (List Bd)} {cts : List Ct} {kds : List Kd} {As Ac Ak : Option Addr} {ns cs nc cc nk ck : Nat}
theorem OwnT.len (h : OwnT w base sch cts kds As Ac Ak ns cs nc cc nk ck) : ns = sch.length ∧ nc = cts.length ∧ nk = kds.length := by
 obtain ⟨⟨ls, e1, o1, _⟩, ⟨lc, e2, o2, _⟩, o3, _⟩ := h
 have f1 : ∀ l : List ScP, (l.flatMap scPC).length = l.length * 1 := fun l => by
  induction l with
  | nil => rfl
  | cons x l ih => rw [List.flatMap_cons, List.length_append, ih, scPC_len, List.length_cons]; omega
 have f2 : ∀ l : List CtP, (l.flatMap ctPC).length = l.length * 6 := fun l => by
  induction l with
  | nil => rfl
  | cons x l ih => rw [List.flatMap_cons, List.length_append, ih, ctPC_len, List.length_cons]; omega
 have f3 : ∀ l : List Kd, (l.flatMap kdC).length = l.length * 4 := fun l => by
  induction l with
  | nil => rfl
  | cons x l ih => rw [List.flatMap_cons, List.length_append, ih, kdC_len, List.length_cons]; omega
 have g1 := o1.1
 have g2 := o2.1
 have g3 := o3.1
 rw [f1] at g1
 rw [f2] at g2
 rw [f3] at g3
 refine ⟨?_, ?_, by omega⟩
 ·
  rw [← e1, List.length_map]; omega
 ·
  rw [← e2, List.length_map]; omega
theorem OwnT.below (h : OwnT w base sch cts kds As Ac Ak ns cs nc cc nk ck) (hb : Below w.heap.size w w') : OwnT w' base sch cts kds As Ac Ak ns cs nc cc nk ck := by
 obtain ⟨⟨ls, e1, o1, b1⟩, ⟨lc, e2, o2, b2⟩, o3, b3⟩ := h
 exact ⟨⟨ls, e1, oB9 o1 hb, fun p hp => (b1 p hp).below hb⟩, ⟨lc, e2, oB9 o2 hb, fun p hp => ⟨(b2 p hp).1.below hb, (b2 p hp).2⟩⟩, oB9 o3 hb, b3⟩
theorem OwnT.setO (h : OwnT w base sch cts kds As Ac Ak ns cs nc cc nk ck) {g : Nat} {xs : Array Value} (hk : Blk w g 26 xs) (j : Nat) (u : Value) : OwnT (w.setCell ⟨g, j, none⟩ u) base sch cts kds As Ac Ak ns cs nc cc nk ck := by
 obtain ⟨⟨ls, e1, o1, b1⟩, ⟨lc, e2, o2, b2⟩, o3, b3⟩ := h
 exact ⟨⟨ls, e1, oS9 o1 hk (by decide) j u, fun p hp => (b1 p hp).setO hk (by decide) j u⟩, ⟨lc, e2, oS9 o2 hk (by decide) j u, fun p hp => ⟨(b2 p hp).1.setO hk (by decide) j u, (b2 p hp).2⟩⟩, oS9 o3 hk (by decide) j u, b3⟩
theorem OwnB.band {l : List Bd} {A : Option Addr} {n c : Nat} (h : OwnB w base (.slice A n c) n l) : BandSl w A n l := by
 obtain ⟨A', c', he, _, hs⟩ := h.sl
 injection he with h1 _ _
 subst h1
 exact hs
theorem OwnT.view (h : OwnT w base sch cts kds As Ac Ak ns cs nc cc nk ck) : TbIn w sch cts kds As Ac Ak ns cs nc cc nk ck := by
 obtain ⟨n1, n2, n3⟩ := h.len
 obtain ⟨⟨ls, e1, o1, b1⟩, ⟨lc, e2, o2, b2⟩, o3, b3⟩ := h
 obtain ⟨A1, c1, he1, hc1, hs1⟩ := own_sl scPC 1 scp0 scPC_len o1 (by rw [n1, ← e1, List.length_map]) (by decide)
 obtain ⟨A2, c2, he2, hc2, hs2⟩ := own_sl ctPC 6 ctp0 ctPC_len o2 (by rw [n2, ← e2, List.length_map]) (by decide)
 obtain ⟨A3, c3, he3, hc3, hs3⟩ := own_sl kdC 4 kd0 kdC_len o3 n3 (by decide)
 injection he1 with x1 _ x2
 injection he2 with y1 _ y2
 injection he3 with z1 _ z2
 subst x1; subst x2; subst y1; subst y2; subst z1; subst z2
 refine ⟨?_, ?_, rows_kd hs3 b3, hc1, hc2, hc3⟩
 ·
  rw [← e1]; exact rows_sc hs1 (fun p hp => (b1 p hp).band)
 ·
  rw [← e2]; exact rows_ct hs2 (fun p hp => ⟨(b2 p hp).1.band, (b2 p hp).2⟩)
theorem OwnT.lower (h : OwnT w base sch cts kds As Ac Ak ns cs nc cc nk ck) {base' : Nat} (hb : base' ≤ base) : OwnT w base' sch cts kds As Ac Ak ns cs nc cc nk ck := by
 obtain ⟨⟨ls, e1, o1, b1⟩, ⟨lc, e2, o2, b2⟩, o3, b3⟩ := h
 exact ⟨⟨ls, e1, oM9 o1 hb, fun p hp => ⟨(b1 p hp).1, oM9 (b1 p hp).2 hb⟩⟩, ⟨lc, e2, oM9 o2 hb, fun p hp => ⟨⟨(b2 p hp).1.1, oM9 (b2 p hp).1.2 hb⟩, (b2 p hp).2⟩⟩, oM9 o3 hb, b3⟩
end
def SameR (P : Prop) (w : World) (e : Ending) (w' : World) : Prop := ∃ r : Bool, (e = .returned (.bool r) ∧ (r = true ↔ P)) ∧ Below w.heap.size w w'
theorem same_no {P : Prop} (h : ¬ P) {w w' : World} (hb : Below w.heap.size w w') : SameR P w (.returned (.bool false)) w' := ⟨false, ⟨rfl, by simp [h]⟩, hb⟩
theorem same_yes {P : Prop} (h : P) {w w' : World} (hb : Below w.heap.size w w') : SameR P w (.returned (.bool true)) w' := ⟨true, ⟨rfl, by simp [h]⟩, hb⟩
theorem list_same {α : Type} {L M : List α} {d : α} (hn : L.length = M.length) (h : ∀ i, i < L.length → L.getD i d = M.getD i d) : L = M := by
 apply List.ext_getElem hn
 intro i h1 h2
 have := h i h1
 rwa [getD_get h1, getD_get h2] at this
end Go.Proofs.YtiaabmhjkoohmaaGreat
