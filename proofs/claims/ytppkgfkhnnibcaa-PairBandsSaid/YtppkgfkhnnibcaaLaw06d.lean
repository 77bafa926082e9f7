/-
  Layer 6's law PairBands: its walk. No conditions.
-/
import Derived.Test.YtppkgfkhnnibcaaLaw06
import Derived.Test.YtppkgfkhnnibcaaRef5b
namespace Go.Proofs.Ytppkgfkhnnibcaa
set_option linter.unusedVariables false
open Go.RowKit
--%%
theorem prog_one (x : Int) (f r : Nat → Int) (n : Nat) (hr : ∀ i, i < n → 0 ≤ r i ∧ r i ≤ 10000) : ∀ k, k ≤ n → progS x f r n k ≤ 10000 * progS x f (fun _ => 1) n k := by
  intro k
  induction k with
  | zero => intro _; simp [progS]
  | succ k ih =>
    intro hk
    have h1 := ih (by omega)
    have h2 := hr k (by omega)
    have h3 : 0 ≤ widthI x f n k := by unfold widthI pos; omega
    have h4 : widthI x f n k * r k ≤ widthI x f n k * 10000 := Int.mul_le_mul_of_nonneg_left h2.2 h3
    rw [progS, progS, Int.mul_add, Int.mul_one]
    omega
theorem ref_one (x : Int) (f : Nat → Int) : ∀ k, refS x f (fun _ => 1) (k + 1) = pos (x - f 0) := by
  intro k
  induction k with
  | zero =>
    simp only [refS, if_true]
    unfold pos
    split <;> omega
  | succ k ih =>
    rw [refS, ih, if_neg (show ¬ (k + 1 = 0) by omega)]
    simp
/-- what an amount comes to by bands that may be is an exact amount that may be -/
theorem bandS_bd (sel : Bd → Int) (l : List Bd) (x : Int) (hl : bandsErr l = 0) (hs : ∀ k, k < l.length → 0 ≤ sel (l.getD k bd0) ∧ sel (l.getD k bd0) ≤ 10000) (hx : mrB x = true) : 0 ≤ bandS sel l x ∧ bandS sel l x ≤ 1000000000000000 := by
  have g := goodB l hl
  have hx' := mr_iff.1 hx
  obtain ⟨n, hn⟩ : ∃ n, l.length = n + 1 := ⟨l.length - 1, by have := g.lo; omega⟩
  unfold bandS
  have h1 := (prog_bd x (fun k => (l.getD k bd0).f) (fun k => sel (l.getD k bd0)) l.length (fun i hi => (g.f i hi).1) hs hx'.2 l.length (Nat.le_refl _)).1
  have h2 := prog_one x (fun k => (l.getD k bd0).f) (fun k => sel (l.getD k bd0)) l.length hs l.length (Nat.le_refl _)
  rw [← ref_prog x (fun k => (l.getD k bd0).f) (fun _ => 1) l.length g.m, hn, ref_one, ← hn] at h2
  have h3 := g.f0
  rw [h3] at h2
  unfold pos at h2
  omega
--%%
theorem pcoins_f (x y : Nat) (a b mode : Int) (hx : Rep x a) (hy : Rep y b) (ha : in53 a = true) (hb : in53 b = true) (hm : modeB mode = false) (w : World) :
    Calls Try.prog 23 #[.complex .f64 x y, .int .i64 mode] w fun e w' => e = .returned (.tuple #[.agg #[.int .i64 0, .int .i64 0], .int .i64 1]) ∧ Below w.heap.size w w' := by
  have HA := Lib.hid (show ¬ ((0 : Int) < 10000 ∧ modeB mode = true) from fun h => by rw [hm] at h; cases h.2)
  go_enter Try.func23, Try.ntmps23
  go_wp2_with fail
  refine (sides_c x y a b hx hy ha hb _).mono ?_
  rintro e w' ⟨rfl, rfl⟩
  go_wp2_with fail
  refine (round_f a 10000 mode _ HA.out).mono ?_
  rintro e w1 ⟨rfl, rfl⟩
  go_wp2_with fail
  exact bodyPost_ret (v := .tuple #[.agg #[.int .i64 0, .int .i64 0], .int .i64 1]) (by simp [results, Try.results23, go_sem]) rfl ⟨rfl, below1 _ _⟩
--%%
set_option maxRecDepth 100000 in
set_option maxHeartbeats 1600000 in
theorem pairBands_walk (A : Option Addr) (n c : Nat) (l : List Bd) (x mode : Int) (w : World) (h : BandSl w A n l) : Calls Try.prog 7 #[.slice A n c, .int .i64 x, .int .i64 mode] w fun e w' => e = .returned (.bool true) ∧ Below w.heap.size w w' := by
  have z := eq_rep rep_zero rep_zero
  simp only [beq_self_eq_true] at z
  by_cases h40 : 40 < n
  · have h40' : (40 : Int) < (n : Int) := by omega
    go_enter Try.func7, Try.ntmps7
    go_wp2_with fail
    refine (both_c _).mono ?_
    rintro e w1 ⟨rfl, hb1⟩
    go_wp2_with fail
    go_ret
    exact ⟨rfl, hb1⟩
  have h40' : ¬ (40 : Int) < (n : Int) := by omega
  by_cases hl : bandsErr l = 0
  case neg =>
    obtain ⟨r, hr⟩ : ∃ r, r = bandsErr l := ⟨_, rfl⟩
    have hr0 : (r != 0) = true := by simpa [hr] using hl
    have HR := Lib.hid hr
    clear hr hl
    go_enter Try.func7, Try.ntmps7
    go_wp2_with fail
    refine (both_c _).mono ?_
    rintro e w1 ⟨rfl, hb1⟩
    go_wp2_with fail
    refine (banded_e x l A n c _ (h.below hb1) r HR hr0).mono ?_
    rintro e w2 ⟨rfl, hb2⟩
    have b2 : Below w.heap.size w w2 := hb1.trans (hb2.mono hb1.size)
    go_wp2_with fail
    refine (rcheck_c l A n c _ (h.below b2) r HR).mono ?_
    rintro e w3 ⟨rfl, hb3⟩
    go_wp2_with fail
    go_ret
    exact ⟨rfl, b2.trans (hb3.mono b2.size)⟩
  have HL : Hid (0 = bandsErr l) := hl.symm
  by_cases hx : mrB x = true
  case neg =>
    have hx' : mrB x = false := by simpa using hx
    have hx2 := mr_not.1 hx'
    have HX := Lib.hid hl
    clear hl hx
    by_cases hlo : 100000000000 < x
    · go_enter Try.func7, Try.ntmps7
      go_wp2_with fail
      refine (both_c _).mono ?_
      rintro e w1 ⟨rfl, hb1⟩
      go_wp2_with fail
      refine (banded_x x l A n c _ (h.below hb1) HX.out hx').mono ?_
      rintro e w2 ⟨rfl, hb2⟩
      have b2 : Below w.heap.size w w2 := hb1.trans (hb2.mono hb1.size)
      go_wp2_with fail
      refine (rcheck_c l A n c _ (h.below b2) 0 HL).mono ?_
      rintro e w3 ⟨rfl, hb3⟩
      go_wp2_with fail
      go_ret
      exact ⟨rfl, b2.trans (hb3.mono b2.size)⟩
    · have hlo2 : x < -100000000000 := by omega
      clear hx2
      go_enter Try.func7, Try.ntmps7
      go_wp2_with fail
      refine (both_c _).mono ?_
      rintro e w1 ⟨rfl, hb1⟩
      go_wp2_with fail
      refine (banded_x x l A n c _ (h.below hb1) HX.out hx').mono ?_
      rintro e w2 ⟨rfl, hb2⟩
      have b2 : Below w.heap.size w w2 := hb1.trans (hb2.mono hb1.size)
      go_wp2_with fail
      refine (rcheck_c l A n c _ (h.below b2) 0 HL).mono ?_
      rintro e w3 ⟨rfl, hb3⟩
      go_wp2_with fail
      go_ret
      exact ⟨rfl, b2.trans (hb3.mono b2.size)⟩
  have hx' := mr_iff.1 hx
  have g := goodB l hl
  have s1 := bandS_bd (·.r) l x hl g.r hx
  have s2 := bandS_bd (·.e) l x hl g.e hx
  obtain ⟨P, hP⟩ : ∃ P, P = bandS (·.r) l x := ⟨_, rfl⟩
  obtain ⟨E, hE⟩ : ∃ E, E = bandS (·.e) l x := ⟨_, rfl⟩
  have K1 := Lib.hid (fun (w : World) (h : BandSl w A n l) => banded_t x l A n c w h hl hx)
  have K2 := Lib.hid (fun (w : World) (h : BandSl w A n l) => rexact1_c x l A n c w h hl hx)
  have K3 := Lib.hid (fun (w : World) (h : BandSl w A n l) => rexact2_c x l A n c w h hl hx)
  have K4 := Lib.hid (fun (w : World) (h : BandSl w A n l) => bexact1_c x l A n c w h hl hx)
  have K5 := Lib.hid (fun (w : World) (h : BandSl w A n l) => bexact2_c x l A n c w h hl hx)
  rw [← hP] at s1 K1 K2 K4
  rw [← hE] at s2 K1 K3 K5
  have p53 : in53 P = true := in53_iff.2 (by omega)
  have e53 : in53 E = true := in53_iff.2 (by omega)
  have pex : exB P = true := exB_iff.2 (by omega)
  have eex : exB E = true := exB_iff.2 (by omega)
  clear hP hE hl g
  cases hm : modeB mode
  all_goals
    go_enter Try.func7, Try.ntmps7
    go_wp2_with fail
    refine (both_c _).mono ?_
    rintro e w1 ⟨rfl, hb1⟩
    go_wp2_with fail
    refine (K1.out _ (h.below hb1)).mono ?_
    rintro e w2 ⟨⟨u, v, rfl, ru, rv⟩, hb2⟩
    have b2 : Below w.heap.size w w2 := hb1.trans (hb2.mono hb1.size)
    go_wp2_with fail
    refine (rcheck_c l A n c _ (h.below b2) 0 HL).mono ?_
    rintro e w3 ⟨rfl, hb3⟩
    have b3 : Below w.heap.size w w3 := b2.trans (hb3.mono b2.size)
    go_wp2_with fail
    refine (sides_c u v _ _ ru rv p53 e53 _).mono ?_
    rintro e w' ⟨rfl, rfl⟩
    go_wp2_with fail
    refine (K2.out _ (h.below b3)).mono ?_
    rintro e w' ⟨rfl, rfl⟩
    go_wp2_with fail
    refine (K3.out _ (h.below b3)).mono ?_
    rintro e w' ⟨rfl, rfl⟩
    go_wp2_with fail
    refine (K4.out _ (h.below b3)).mono ?_
    rintro e w4 ⟨rfl, hb4⟩
    have b4 : Below w.heap.size w w4 := b3.trans (hb4.mono b3.size)
    go_wp2_with fail
    refine (K5.out _ (h.below b4)).mono ?_
    rintro e w5 ⟨rfl, hb5⟩
    have b5 : Below w.heap.size w w5 := b4.trans (hb5.mono b4.size)
    go_wp2_with fail
  · refine (pcoins_f u v _ _ mode ru rv p53 e53 hm _).mono ?_
    rintro e w6 ⟨rfl, hb6⟩
    have b6 : Below w.heap.size w w6 := b5.trans (hb6.mono b5.size)
    have hz := b6.size
    have sb := Blk.mk w6 36 #[.int .i64 0, .int .i64 0]
    obtain ⟨q1, q2, q3, q4⟩ := sb.all2
    go_wp2_with fail
    refine (fcoins_m P mode _ pex hm).mono ?_
    rintro e w' ⟨rfl, rfl⟩
    go_wp2_with fail
    refine (fcoins_m E mode _ eex hm).mono ?_
    rintro e w' ⟨rfl, rfl⟩
    go_wp2_with fail
    go_ret
    exact ⟨rfl, b6.alloc hz _⟩
  · have F1 := Lib.hid (fcoins_t P mode · pex hm)
    have F2 := Lib.hid (fcoins_t E mode · eex hm)
    have F3 := Lib.hid (pcoins_t u v P E mode ru rv p53 e53 hm)
    generalize roundI P 10000 mode = rp at *
    generalize roundI E 10000 mode = re at *
    refine (F3.out _).mono ?_
    rintro e w6 ⟨rfl, hb6⟩
    have b6 : Below w.heap.size w w6 := b5.trans (hb6.mono b5.size)
    have hz := b6.size
    have sb := Blk.mk w6 36 #[.int .i64 rp, .int .i64 re]
    go_wp2_with fail
    refine (F1.out _).mono ?_
    rintro e w7 ⟨rfl, hb7⟩
    have sb7 := sb.below hb7 (by simp)
    have hz7 := hb7.size
    simp at hz7
    go_wp2_with fail
    refine (F2.out _).mono ?_
    rintro e w8 ⟨rfl, hb8⟩
    have sb8 := sb7.below hb8 (by omega)
    obtain ⟨q1, q2, q3, q4⟩ := sb8.all2
    go_wp2_with fail
    go_ret
    exact ⟨rfl, ((b6.alloc hz _).trans (hb7.mono (by simp; omega))).trans (hb8.mono (by omega))⟩
--%%
end Go.Proofs.Ytppkgfkhnnibcaa
