/-
 Contracts of package pair: what an amount comes to by bands on both sides; rounding; totals. Conditions as named.
-/
import Derived.Test.YtiaabmhjkoohmaaGreatM1
namespace Go.Proofs.YtiaabmhjkoohmaaGreat
set_option maxRecDepth 100000
set_option maxHeartbeats 25600000
set_option linter.unusedVariables false
set_option linter.unusedSimpArgs false
open Go.RowKit
open Ieee
theorem cmul_rep {x y z t : Nat} {a c d : Int} (hx : Rep x a) (hy : Rep y 0) (hz : Rep z c) (ht : Rep t d) (h1 : in53 (a * c) = true) (h2 : in53 (a * d) = true) :
  ∃ u v, cMulBits x y z t = some (u, v) ∧ Rep u (a * c) ∧ Rep v (a * d) := by
 obtain ⟨r1, e1, q1⟩ := mul_rep hx hz (i53.1 h1)
 obtain ⟨r2, e2, q2⟩ := mul_rep hy ht (by rw [Int.zero_mul]; omega)
 rw [Int.zero_mul] at q2
 obtain ⟨r3, e3, q3⟩ := sub_rep q1 q2 (by rw [Int.sub_zero]; exact i53.1 h1)
 rw [Int.sub_zero] at q3
 obtain ⟨r4, e4, q4⟩ := mul_rep hx ht (i53.1 h2)
 obtain ⟨r5, e5, q5⟩ := mul_rep hy hz (by rw [Int.zero_mul]; omega)
 rw [Int.zero_mul] at q5
 obtain ⟨r6, e6, q6⟩ := add_rep q4 q5 (by rw [Int.add_zero]; exact i53.1 h2)
 rw [Int.add_zero] at q6
 exact ⟨r3, r6, by unfold cMulBits; simp [e1, e2, e3, e4, e5, e6], q3, q6⟩
theorem cadd_rep {x y z t : Nat} {a b c d : Int} (hx : Rep x a) (hy : Rep y b) (hz : Rep z c) (ht : Rep t d) (h1 : in53 (a + c) = true) (h2 : in53 (b + d) = true) :
  ∃ u v, cSumBits .add .f64 x y z t = some (u, v) ∧ Rep u (a + c) ∧ Rep v (b + d) := by
 obtain ⟨r1, e1, q1⟩ := add_rep hx hz (i53.1 h1)
 obtain ⟨r2, e2, q2⟩ := add_rep hy ht (i53.1 h2)
 exact ⟨r1, r2, by unfold cSumBits; simp [e1, e2], q1, q2⟩
theorem rates_c (a r e : Int) (w : World) : Calls Tryz.prog 211 #[.agg #[.int .i64 a, .int .i64 r, .int .i64 e]] w fun x w' => x = .returned (.complex .f64 (fb r) (fb e)) ∧ Below w.heap.size w w' := by
 unfold fb
 go_enter Tryz.func211, Tryz.ntmps211
 go_wp2
 go_ret
 exact ⟨rfl, bz1 _ _⟩
def PairIs (a b : Int) (W : World) (x : Ending) (w' : World) : Prop := (∃ u v, x = .returned (.tuple #[.complex .f64 u v, .int .i64 0]) ∧ Rep u a ∧ Rep v b) ∧ Below W.heap.size W w'
theorem banded_loop (x : Int) (n b off c : Nat) (l : List Bd) (w : World) (g : GoodB l n) (hx : mrB x = true) (hb : b < w.heap.size) (hc : BandsAt w b off l) (T E : Int) (hT : Hid (T = pSz x (fun k => (l.getD k bd0).f) (fun k => (l.getD k bd0).r) n n)) (hE : Hid (E = pSz x (fun k => (l.getD k bd0).f) (fun k => (l.getD k bd0).e) n n)) (hsl : Blz w (some ⟨b, off, none⟩) n l) (hbe : Hid (0 = bE9 l)) :
  Calls Tryz.prog 209 #[.int .i64 x, .slice (some ⟨b, off, none⟩) n c] w (PairIs T E w) := by
 have hx' := miz.1 hx
 have hn8 := g.hi
 go_enter Tryz.func209, Tryz.ntmps209
 go_wp2_with fail
 refine wp_scope_goto 0 (fun a' w' => ∃ (k : Nat) (s t : Int) (u v : Nat), k ≤ n ∧ Hid (s = pSz x (fun k => (l.getD k bd0).f) (fun k => (l.getD k bd0).r) n k) ∧ Hid (t = pSz x (fun k => (l.getD k bd0).f) (fun k => (l.getD k bd0).e) n k) ∧ Rep u s ∧ Rep v t ∧ Below w.heap.size w w' ∧ ∃ (u2 u3 u6 u9 u10 u11 u12 u13 u14 u15 u16 u17 u18 u19 u20 u21 u22 u23 u24 u25 u26 u27 u28 u29 u30 u31 u32 u33 u34 u35 u36 u37 u38 u39 u40 u41 u42 u43 u44 u45 u46 u47 u48 u49 u50 u51 u52 u53 u54 u55 u56 u57 u58 u59 u60 u61 u62 u63 u64 u65 : Value), a' = { tmps := #[.int .i64 x, .slice (some ⟨b, off, none⟩) n c, u2, u3, .complex .f64 0 0, .int .i64 0, u6, .complex .f64 u v, .int .i64 k, u9, u10, u11, u12, u13, u14, u15, u16, u17, u18, u19, u20, u21, u22, u23, u24, u25, u26, u27, u28, u29, u30, u31, u32, u33, u34, u35, u36, u37, u38, u39, u40, u41, u42, u43, u44, u45, u46, u47, u48, u49, u50, u51, u52, u53, u54, u55, u56, u57, u58, u59, u60, u61, u62, u63, u64, u65], defers := [] }) (fun a' _ => n - (intOf (a'.tmps.getD 8 undef)).toNat) rfl ?_ ?_
 ·
  rintro a' w' ⟨k, s, t, u, v, hk, hs', ht', ru, rv, hbl, hF⟩
  obtain ⟨u2, u3, u6, u9, u10, u11, u12, u13, u14, u15, u16, u17, u18, u19, u20, u21, u22, u23, u24, u25, u26, u27, u28, u29, u30, u31, u32, u33, u34, u35, u36, u37, u38, u39, u40, u41, u42, u43, u44, u45, u46, u47, u48, u49, u50, u51, u52, u53, u54, u55, u56, u57, u58, u59, u60, u61, u62, u63, u64, u65, hF⟩ := hF; subst hF
  have hT' := hT.out
  have hE' := hE.out
  have hs'' := hs'.out
  have ht'' := ht'.out
  by_cases hkn : k = n
  ·
   have tk : ((k : Int) == (n : Int)) = true := by simp; omega
   have e1 : T = s := by rw [hT', hs'', hkn]
   have e2 : E = t := by rw [hE', ht'', hkn]
   subst e1; subst e2
   clear hT' hs'' hkn hE' ht''
   go_wp2_with fail
   simp only [Exit.jump]
   go_ret2
   exact ⟨⟨_, _, rfl, ru, rv⟩, hbl⟩
  have tk : ((k : Int) == (n : Int)) = false := by simp; omega
  have hlt : k < n := by omega
  have hcc := hc
  obtain ⟨c0, c1, c2⟩ := hc k (by rw [← g.len]; omega)
  rw [← hbl.cell (p := ⟨b, _, none⟩) hb] at c0 c1 c2
  have hsz := hbl.size
  by_cases hxf : x ≤ (l.getD k bd0).f
  ·
   have e1 : T = s := by
    rw [hT', hs'']
    have := (prog_stop x (fun k => (l.getD k bd0).f) (fun k => (l.getD k bd0).r) n g.m k hxf (n - k) (by omega)).1
    rw [show k + (n - k) = n by omega] at this
    exact this
   have e2 : E = t := by
    rw [hE', ht'']
    have := (prog_stop x (fun k => (l.getD k bd0).f) (fun k => (l.getD k bd0).e) n g.m k hxf (n - k) (by omega)).1
    rw [show k + (n - k) = n by omega] at this
    exact this
   subst e1; subst e2
   clear hT' hs'' hkn hE' ht''
   generalize (l.getD k bd0).f = xf at *
   generalize (l.getD k bd0).r = xr at *
   generalize (l.getD k bd0).e = xe at *
   go_wp2_with fail
   simp only [Exit.jump]
   go_ret2
   exact ⟨⟨_, _, rfl, ru, rv⟩, hbl⟩
  obtain ⟨wd, hwd⟩ : ∃ wd, wd = widthI x (fun k => (l.getD k bd0).f) n k := ⟨_, rfl⟩
  have hwb := width_bd x (fun k => (l.getD k bd0).f) n k (g.f k hlt).1 hx'.2
  have hrb := g.r k hlt
  have heb := g.e k hlt
  rw [← hwd] at hwb
  have hp1 := prog_bd x (fun k => (l.getD k bd0).f) (fun k => (l.getD k bd0).r) n (fun i hi => (g.f i hi).1) g.r hx'.2 k hk
  have hp2 := prog_bd x (fun k => (l.getD k bd0).f) (fun k => (l.getD k bd0).e) n (fun i hi => (g.f i hi).1) g.e hx'.2 k hk
  rw [← hs''] at hp1
  rw [← ht''] at hp2
  have hm1 := mul_bd0 hwb.1 hwb.2 hrb.1 hrb.2 (by decide)
  have hm2 := mul_bd0 hwb.1 hwb.2 heb.1 heb.2 (by decide)
  have hk7 : (k : Int) ≤ 7 := by omega
  obtain ⟨p, q, hpq, rp, rq⟩ := cmul_rep (fb_rep wd (by omega)) rep_zero (fb_rep (l.getD k bd0).r (by omega)) (fb_rep (l.getD k bd0).e (by omega)) (i53.2 (by omega)) (i53.2 (by omega))
  obtain ⟨u', v', huv, ru', rv'⟩ := cadd_rep ru rv rp rq (i53.2 (by omega)) (i53.2 (by omega))
  have g1 := fun w => run_complex_mul (P := Tryz.prog) w 267 _ _ _ _ _ _ hpq
  have g2 := fun w => run_complex_sum (P := Tryz.prog) w .add (Or.inl rfl) 267 .f64 _ _ _ _ _ _ huv
  rw [show fb wd = floatOfInt .f64 wd from rfl] at g1
  have n1 : Hid (s + wd * (l.getD k bd0).r = pSz x (fun k => (l.getD k bd0).f) (fun k => (l.getD k bd0).r) n (k + 1)) := by unfold Hid; rw [pSz, ← hs'', ← hwd]
  have n2 : Hid (t + wd * (l.getD k bd0).e = pSz x (fun k => (l.getD k bd0).f) (fun k => (l.getD k bd0).e) n (k + 1)) := by unfold Hid; rw [pSz, ← ht'', ← hwd]
  have HR := Lib.hid (rates_c (l.getD k bd0).f (l.getD k bd0).r (l.getD k bd0).e)
  unfold widthI pos at hwd
  dsimp only at hwd
  have i1 : ((k : Int) + 1).toNat = k + 1 := by omega
  have hf0 := g.f k hlt
  by_cases hnx : k + 1 < n
  ·
   obtain ⟨d0, _, _⟩ := hcc (k + 1) (by rw [← g.len]; exact hnx)
   rw [← hbl.cell (p := ⟨b, _, none⟩) hb] at d0
   rw [if_pos hnx] at hwd
   have hf1 := g.f (k + 1) hnx
   have hmm := g.m k hnx
   generalize (l.getD (k + 1) bd0).f = yf at *
   generalize (l.getD k bd0).f = xf at *
   generalize (l.getD k bd0).r = xr at *
   generalize (l.getD k bd0).e = xe at *
   have b1 : 0 ≤ min x yf - xf := by omega
   have b2 : min x yf - xf ≤ 100000000000 := by omega
   have e3 : wd = min x yf - xf := by omega
   subst e3
   clear hT' hE' hs'' ht'' hcc hc g hwd hsl huv hpq
   have w1 : IntKind.i64.wrap (min x yf - xf) = min x yf - xf := by rw [IntKind.wrap_i64]; omega
   go_wp2_with fail
   go_region_held3 (fun W => W.cell? ⟨b, off + k * 3, none⟩ = some (.int .i64 xf) ∧ W.cell? ⟨b, off + k * 3 + 1, none⟩ = some (.int .i64 xr) ∧ W.cell? ⟨b, off + k * 3 + 2, none⟩ = some (.int .i64 xe) ∧ Below w.heap.size w W)
    (first | assumption | (refine ⟨?_, ?_, ?_, ?_⟩ <;> assumption) | exact ⟨c0, c1, c2, hbl.drew⟩ | (apply sB3 hb <;> assumption))
    (first | (go_at_call 211; refine (HR.out _).mono ?_; rintro e w1 ⟨rfl, hb1⟩))
   all_goals
    go_wp2_with fail
    go_step3
    refine ⟨rfl, ⟨k + 1, _, _, _, _, by omega, n1, n2, ru', rv', (by first | assumption | exact hbl.drew | exact (show _ ∧ _ ∧ _ ∧ _ from by assumption).2.2.2), ⟨_, _, _, _, _, _, _, _, _, _, _, _, _, _, _, _, _, _, _, _, _, _, _, _, _, _, _, _, _, _, _, _, _, _, _, _, _, _, _, _, _, _, _, _, _, _, _, _, _, _, _, _, _, _, _, _, _, _, _, _, rfl⟩⟩, ?_⟩
    simp [intOf]; omega
  ·
   rw [if_neg hnx] at hwd
   generalize (l.getD k bd0).f = xf at *
   generalize (l.getD k bd0).r = xr at *
   generalize (l.getD k bd0).e = xe at *
   have b1 : 0 ≤ x - xf := by omega
   have b2 : x - xf ≤ 100000000000 := by omega
   have e3 : wd = x - xf := by omega
   subst e3
   clear hT' hE' hs'' ht'' hcc hc g hwd hsl huv hpq
   have w1 : IntKind.i64.wrap (x - xf) = x - xf := by rw [IntKind.wrap_i64]; omega
   go_wp2_with fail
   go_region_held3 (fun W => W.cell? ⟨b, off + k * 3, none⟩ = some (.int .i64 xf) ∧ W.cell? ⟨b, off + k * 3 + 1, none⟩ = some (.int .i64 xr) ∧ W.cell? ⟨b, off + k * 3 + 2, none⟩ = some (.int .i64 xe) ∧ Below w.heap.size w W)
    (first | assumption | (refine ⟨?_, ?_, ?_, ?_⟩ <;> assumption) | exact ⟨c0, c1, c2, hbl.drew⟩ | (apply sB3 hb <;> assumption))
    (first | (go_at_call 211; refine (HR.out _).mono ?_; rintro e w1 ⟨rfl, hb1⟩))
   all_goals
    go_wp2_with fail
    go_step3
    refine ⟨rfl, ⟨k + 1, _, _, _, _, by omega, n1, n2, ru', rv', (by first | assumption | exact hbl.drew | exact (show _ ∧ _ ∧ _ ∧ _ from by assumption).2.2.2), ⟨_, _, _, _, _, _, _, _, _, _, _, _, _, _, _, _, _, _, _, _, _, _, _, _, _, _, _, _, _, _, _, _, _, _, _, _, _, _, _, _, _, _, _, _, _, _, _, _, _, _, _, _, _, _, _, _, _, _, _, _, rfl⟩⟩, ?_⟩
    simp [intOf]; omega
 ·
  intro HP
  have HP := Lib.hid HP
  go_upto_region 7 with (first | (go_at_call 186; refine (bcheck_c l _ n c _ hsl 0 hbe).mono ?_; rintro e w1 ⟨rfl, hb1⟩) | (go_at_call 76; refine (r1z _ _ _ x _ (by simp)).mono ?_; rintro e w' ⟨rfl, rfl⟩))
  go_step3
  simp only [Exit.then]
  rename_i hK
  exact hK _ _ (HP.out _ _ ⟨0, 0, 0, 0, 0, by omega, rfl, rfl, rep_zero, rep_zero, hb1.trans ((bz1 _ _).mono hb1.size), ⟨_, _, _, _, _, _, _, _, _, _, _, _, _, _, _, _, _, _, _, _, _, _, _, _, _, _, _, _, _, _, _, _, _, _, _, _, _, _, _, _, _, _, _, _, _, _, _, _, _, _, _, _, _, _, _, _, _, _, _, _, rfl⟩⟩)
theorem banded_t (x : Int) (l : List Bd) (A : Option Addr) (n c : Nat) (w : World) (h : Blz w A n l) (hl : bE9 l = 0) (hx : mrB x = true) :
  Calls Tryz.prog 209 #[.int .i64 x, .slice A n c] w (PairIs (bandS (·.r) l x) (bandS (·.e) l x) w) := by
 have h' := h
 obtain ⟨hn, hm, hc⟩ := h'
 have g := goodB l hl
 have gl := g.lo
 obtain ⟨b, off, rfl, hb, hc⟩ := hc (by omega)
 exact banded_loop x n b off c l w (by rw [hn]; exact g) hx hb hc _ _ (by unfold Hid; rw [bandS, hn]) (by unfold Hid; rw [bandS, hn]) h hl.symm
end Go.Proofs.YtiaabmhjkoohmaaGreat
