/-
 Contracts of package band. Conditions as named.
-/
import Derived.Test.YtiaabmhjkoohmaaGreatM0
import Derived.Outline
import Derived.WalkMore
import Derived.ScopeJumps
import Derived.Deep.QuietTactic
import Derived.Deep.RegionHeld3
import Derived.BigQuiet
import Derived.WalkSmall
import Derived.Deep.DeepCutAuto
namespace Go.Proofs.YtiaabmhjkoohmaaGreat
set_option maxRecDepth 100000
set_option maxHeartbeats 25600000
set_option linter.unusedVariables false
set_option linter.unusedSimpArgs false
open Go.RowKit Tryz
open Lib (hid)

structure Bd where
 f : Int
 r : Int
 e : Int
def bd0 : Bd := ⟨0, 0, 0⟩
def BandsAt (w : World) (b off : Nat) (l : List Bd) : Prop := ∀ k, k < l.length → w.cell? ⟨b, off + k * 3, none⟩ = some (.int .i64 (l.getD k bd0).f) ∧ w.cell? ⟨b, off + k * 3 + 1, none⟩ = some (.int .i64 (l.getD k bd0).r) ∧ w.cell? ⟨b, off + k * 3 + 2, none⟩ = some (.int .i64 (l.getD k bd0).e)
def fz9 (f : Nat → Int) : Nat → Int
 | 0 => 0
 | n + 1 => if fz9 f n ≠ 0 then fz9 f n else f n
theorem fS9 (f : Nat → Int) (k n : Nat) (h0 : fz9 f k = 0) (hk : f k ≠ 0) (hn : k < n) : fz9 f n = f k := by
 induction n with
 | zero => omega
 | succ n ih =>
  unfold fz9
  by_cases e : k = n
  ·
   subst e; simp [h0]
  ·
   have := ih (by omega)
   rw [this]
   simp [hk]
theorem ft9 (f : Nat → Int) (k : Nat) (h0 : fz9 f k = 0) (hk : f k = 0) : fz9 f (k + 1) = 0 := by
 unfold fz9
 simp [h0, hk]
theorem faz (f : Nat → Int) (n : Nat) (h : fz9 f n = 0) : ∀ k, k < n → f k = 0 := by
 induction n with
 | zero => intro k hk; omega
 | succ n ih =>
  unfold fz9 at h
  by_cases e : fz9 f n = 0
  ·
   simp [e] at h
   intro k hk
   rcases (by omega : k = n ∨ k < n) with rfl | hk
   ·
    exact h
   ·
    exact ih e k hk
  ·
   simp [e] at h
def bandV (k : Nat) (pf xf xr xe : Int) : Int :=
 if xf < 0 ∨ 100000000000 < xf ∨ (k = 0 ∧ xf ≠ 0) then 1
 else if 0 < k ∧ xf ≤ pf then 6
 else if ¬ (rateB xr = true ∧ rateB xe = true) then 50
 else 0
def baz (l : List Bd) (k : Nat) : Int := bandV k (l.getD (k - 1) bd0).f (l.getD k bd0).f (l.getD k bd0).r (l.getD k bd0).e
def bE9 (l : List Bd) : Int := if l.length = 0 ∨ 8 < l.length then 2 else fz9 (baz l) l.length
theorem bcheck_loop (l : List Bd) (n b off c : Nat) (hn : Hid (n = l.length)) (h1 : 1 ≤ n) (h8 : n ≤ 8) (w : World) (hb : b < w.heap.size) (hc : BandsAt w b off l) :
  Calls prog 186 #[.slice (some ⟨b, off, none⟩) n c] w fun e w' => (∃ r, e = .returned (.int .i64 r) ∧ Hid (r = fz9 (baz l) n)) ∧ Below w.heap.size w w' := by
 have hn0 : ((n : Int) == 0) = false := by simp; omega
 have hn8 : decide ((8 : Int) < (n : Int)) = false := by simp; omega
 have hn9 : ¬ (8 : Int) < (n : Int) := by omega
 go_enter func186, ntmps186
 go_wp2_with fail
 refine wp_scope_goto 0 (fun a' w' => ∃ k : Nat, k < n ∧ Hid (fz9 (baz l) k = 0) ∧ Below w.heap.size w w' ∧ ∃ (u4 u5 u6 u7 u8 u9 u10 u11 u12 u13 u14 u15 u16 u17 u18 u19 u20 u21 u22 u23 u24 u25 u26 u27 u28 u29 u30 u31 u32 u33 u34 u35 u36 u37 u38 u39 u40 u41 u42 u43 u44 u45 u46 u47 u48 u49 u50 u51 u52 u53 u54 u55 u56 u57 u58 u59 u60 u61 u62 u63 u64 u65 : Value), a' = { tmps := #[.slice (some ⟨b, off, none⟩) n c, undef, .int .i64 0, .int .i64 k, u4, u5, u6, u7, u8, u9, u10, u11, u12, u13, u14, u15, u16, u17, u18, u19, u20, u21, u22, u23, u24, u25, u26, u27, u28, u29, u30, u31, u32, u33, u34, u35, u36, u37, u38, u39, u40, u41, u42, u43, u44, u45, u46, u47, u48, u49, u50, u51, u52, u53, u54, u55, u56, u57, u58, u59, u60, u61, u62, u63, u64, u65], defers := [] }) (fun a' _ => n - (intOf (a'.tmps.getD 3 undef)).toNat) rfl ?_ ?_
 ·
  rintro a' w' ⟨k, hk, HZ, hbl, hF⟩
  obtain ⟨u4, u5, u6, u7, u8, u9, u10, u11, u12, u13, u14, u15, u16, u17, u18, u19, u20, u21, u22, u23, u24, u25, u26, u27, u28, u29, u30, u31, u32, u33, u34, u35, u36, u37, u38, u39, u40, u41, u42, u43, u44, u45, u46, u47, u48, u49, u50, u51, u52, u53, u54, u55, u56, u57, u58, u59, u60, u61, u62, u63, u64, u65, hF⟩ := hF; subst hF
  have hkl : k < l.length := by rw [← hn.out]; exact hk
  obtain ⟨c0, c1, c2⟩ := hc k hkl
  rw [← hbl.cell (p := ⟨b, _, none⟩) hb] at c0 c1 c2
  have hsz := hbl.size
  have HB : Hid (baz l k = bandV k (l.getD (k - 1) bd0).f (l.getD k bd0).f (l.getD k bd0).r (l.getD k bd0).e) := rfl
  have k3 : ((k : Int)).toNat = k := by omega
  by_cases hk0 : k = 0
  ·
   have kk : ((k : Int) == 0) = true := by simp; omega
   have kz : decide ((0 : Int) < (k : Int)) = false := by simp; omega
   have kz2 : decide (0 < k) = false := by simp; omega
   have HK := hid hk0
   clear hk0 hc k3
   generalize (l.getD k bd0).f = xf at *
   generalize (l.getD k bd0).r = xr at *
   generalize (l.getD k bd0).e = xe at *
   generalize (l.getD (k - 1) bd0).f = pf at *
   by_cases a1 : xf < 0
   ·
    go_wp2_with fail
    simp only [Exit.jump]
    go_ret
    have e0 : baz l k = 1 := HB.out.trans (by unfold bandV; rw [if_pos (Or.inl a1)])
    refine ⟨⟨_, rfl, ?_⟩, hbl.alloc hsz _⟩
    unfold Hid
    rw [fS9 (baz l) k n HZ.out (by rw [e0]; decide) hk, e0]
   by_cases a2 : 100000000000 < xf
   ·
    go_wp2_with fail
    simp only [Exit.jump]
    go_ret
    have e0 : baz l k = 1 := HB.out.trans (by unfold bandV; rw [if_pos (Or.inr (Or.inl a2))])
    refine ⟨⟨_, rfl, ?_⟩, hbl.alloc hsz _⟩
    unfold Hid
    rw [fS9 (baz l) k n HZ.out (by rw [e0]; decide) hk, e0]
   by_cases a3 : xf = 0
   case neg =>
    have t3 : (xf != 0) = true := by simpa using a3
    go_wp2_with fail
    simp only [Exit.jump]
    go_ret
    have e0 : baz l k = 1 := HB.out.trans (by unfold bandV; rw [if_pos (Or.inr (Or.inr ⟨HK.out, a3⟩))])
    refine ⟨⟨_, rfl, ?_⟩, hbl.alloc hsz _⟩
    unfold Hid
    rw [fS9 (baz l) k n HZ.out (by rw [e0]; decide) hk, e0]
   subst a3
   cases a4 : rateB xr
   ·
    go_wp2_with fail
    go_quiet (fail)
    go_wp2_with fail
    refine (rate_c xr _).mono ?_
    rintro e w' ⟨rfl, rfl⟩
    go_wp2_with fail
    simp only [Exit.jump]
    go_ret
    have e0 : baz l k = 50 := HB.out.trans (by unfold bandV; rw [if_neg (by simp), if_neg (by have := HK.out; omega)]; rw [if_pos (by simp [a4])])
    refine ⟨⟨_, rfl, ?_⟩, below_drewN (hbl.alloc hsz _) _⟩
    unfold Hid
    rw [fS9 (baz l) k n HZ.out (by rw [e0]; decide) hk, e0]
   cases a5 : rateB xe
   ·
    go_wp2_with fail
    go_quiet (fail)
    go_wp2_with fail
    refine (rate_c xr _).mono ?_
    rintro e w' ⟨rfl, rfl⟩
    go_wp2_with fail
    refine (rate_c xe _).mono ?_
    rintro e w' ⟨rfl, rfl⟩
    go_wp2_with fail
    simp only [Exit.jump]
    go_ret
    have e0 : baz l k = 50 := HB.out.trans (by unfold bandV; rw [if_neg (by simp), if_neg (by have := HK.out; omega)]; rw [if_pos (by simp [a5])])
    refine ⟨⟨_, rfl, ?_⟩, below_drewN (hbl.alloc hsz _) _⟩
    unfold Hid
    rw [fS9 (baz l) k n HZ.out (by rw [e0]; decide) hk, e0]
   have e0 : baz l k = 0 := HB.out.trans (by unfold bandV; rw [if_neg (by simp), if_neg (by have := HK.out; omega)]; rw [if_neg (by simp [a4, a5])])
   have E0 := hid e0; clear e0
   by_cases a6 : k + 1 < n
   ·
    go_wp2_with fail
    go_quiet (fail)
    go_wp2_with fail
    refine (rate_c xr _).mono ?_
    rintro e w' ⟨rfl, rfl⟩
    go_wp2_with fail
    refine (rate_c xe _).mono ?_
    rintro e w' ⟨rfl, rfl⟩
    go_wp2_with fail
    go_step3
    refine ⟨rfl, ⟨k + 1, a6, ft9 (baz l) k HZ.out E0.out, below_drewN (hbl.alloc hsz _) _, ⟨_, _, _, _, _, _, _, _, _, _, _, _, _, _, _, _, _, _, _, _, _, _, _, _, _, _, _, _, _, _, _, _, _, _, _, _, _, _, _, _, _, _, _, _, _, _, _, _, _, _, _, _, _, _, _, _, _, _, _, _, _, _, rfl⟩⟩, ?_⟩
    simp [intOf]; omega
   ·
    go_wp2_with fail
    go_quiet (fail)
    go_wp2_with fail
    refine (rate_c xr _).mono ?_
    rintro e w' ⟨rfl, rfl⟩
    go_wp2_with fail
    refine (rate_c xe _).mono ?_
    rintro e w' ⟨rfl, rfl⟩
    go_wp2_with fail
    simp only [Exit.jump]
    go_ret
    refine ⟨⟨_, rfl, ?_⟩, below_drewN (hbl.alloc hsz _) _⟩
    unfold Hid
    rw [show n = k + 1 from by omega, ft9 (baz l) k HZ.out E0.out]
  ·
   have kk : ((k : Int) == 0) = false := by simp; omega
   have kp : (0 : Int) < (k : Int) := by omega
   have kp2 : decide (0 < k) = true := by simp; omega
   obtain ⟨d0, d1, d2⟩ := hc (k - 1) (by omega)
   rw [← hbl.cell (p := ⟨b, _, none⟩) hb] at d0
   have d0a : ∀ o, (w'.alloc o).cell? ⟨b, off + (k - 1) * 3, none⟩ = some (.int .i64 (l.getD (k - 1) bd0).f) := fun o => by rw [World.cell?_alloc_lt _ _ _ (show b < w'.heap.size by omega)]; exact d0
   clear d1 d2 hc k3
   have k1 : IntKind.i64.wrap ((k : Int) - 1) = ((k : Int) - 1) := by rw [IntKind.wrap_i64]; omega
   have k2 : ((k : Int) - 1).toNat = k - 1 := by omega
   have k4 : 0 ≤ ((k : Int) - 1) := by omega
   have k5 : ((k : Int) - 1) < (n : Int) := by omega
   have k6 : (1 : Int) ≤ (k : Int) := by omega
   have k7 : 1 ≤ k := by omega
   generalize (l.getD k bd0).f = xf at *
   generalize (l.getD k bd0).r = xr at *
   generalize (l.getD k bd0).e = xe at *
   generalize (l.getD (k - 1) bd0).f = pf at *
   by_cases a1 : xf < 0
   ·
    go_wp2_with fail
    simp only [Exit.jump]
    go_ret
    have e0 : baz l k = 1 := HB.out.trans (by unfold bandV; rw [if_pos (Or.inl a1)])
    refine ⟨⟨_, rfl, ?_⟩, hbl.alloc hsz _⟩
    unfold Hid
    rw [fS9 (baz l) k n HZ.out (by rw [e0]; decide) hk, e0]
   by_cases a2 : 100000000000 < xf
   ·
    go_wp2_with fail
    simp only [Exit.jump]
    go_ret
    have e0 : baz l k = 1 := HB.out.trans (by unfold bandV; rw [if_pos (Or.inr (Or.inl a2))])
    refine ⟨⟨_, rfl, ?_⟩, hbl.alloc hsz _⟩
    unfold Hid
    rw [fS9 (baz l) k n HZ.out (by rw [e0]; decide) hk, e0]
   by_cases a3 : xf ≤ pf
   ·
    go_wp2_with fail
    go_quiet (fail)
    go_wp2_with fail
    simp only [Exit.jump]
    go_ret
    have e0 : baz l k = 6 := HB.out.trans (by unfold bandV; rw [if_neg (by omega), if_pos (by omega)])
    refine ⟨⟨_, rfl, ?_⟩, below_drewN (hbl.alloc hsz _) _⟩
    unfold Hid
    rw [fS9 (baz l) k n HZ.out (by rw [e0]; decide) hk, e0]
   cases a4 : rateB xr
   ·
    go_wp2_with fail
    go_quiet (fail)
    go_wp2_with fail
    refine (rate_c xr _).mono ?_
    rintro e w' ⟨rfl, rfl⟩
    go_wp2_with fail
    simp only [Exit.jump]
    go_ret
    have e0 : baz l k = 50 := HB.out.trans (by unfold bandV; rw [if_neg (by omega), if_neg (by omega)]; rw [if_pos (by simp [a4])])
    refine ⟨⟨_, rfl, ?_⟩, below_drewN (hbl.alloc hsz _) _⟩
    unfold Hid
    rw [fS9 (baz l) k n HZ.out (by rw [e0]; decide) hk, e0]
   cases a5 : rateB xe
   ·
    go_wp2_with fail
    go_quiet (fail)
    go_wp2_with fail
    refine (rate_c xr _).mono ?_
    rintro e w' ⟨rfl, rfl⟩
    go_wp2_with fail
    refine (rate_c xe _).mono ?_
    rintro e w' ⟨rfl, rfl⟩
    go_wp2_with fail
    simp only [Exit.jump]
    go_ret
    have e0 : baz l k = 50 := HB.out.trans (by unfold bandV; rw [if_neg (by omega), if_neg (by omega)]; rw [if_pos (by simp [a5])])
    refine ⟨⟨_, rfl, ?_⟩, below_drewN (hbl.alloc hsz _) _⟩
    unfold Hid
    rw [fS9 (baz l) k n HZ.out (by rw [e0]; decide) hk, e0]
   have e0 : baz l k = 0 := HB.out.trans (by unfold bandV; rw [if_neg (by omega), if_neg (by omega)]; rw [if_neg (by simp [a4, a5])])
   have E0 := hid e0; clear e0
   by_cases a6 : k + 1 < n
   ·
    go_wp2_with fail
    go_quiet (fail)
    go_wp2_with fail
    refine (rate_c xr _).mono ?_
    rintro e w' ⟨rfl, rfl⟩
    go_wp2_with fail
    refine (rate_c xe _).mono ?_
    rintro e w' ⟨rfl, rfl⟩
    go_wp2_with fail
    go_step3
    refine ⟨rfl, ⟨k + 1, a6, ft9 (baz l) k HZ.out E0.out, below_drewN (hbl.alloc hsz _) _, ⟨_, _, _, _, _, _, _, _, _, _, _, _, _, _, _, _, _, _, _, _, _, _, _, _, _, _, _, _, _, _, _, _, _, _, _, _, _, _, _, _, _, _, _, _, _, _, _, _, _, _, _, _, _, _, _, _, _, _, _, _, _, _, rfl⟩⟩, ?_⟩
    simp [intOf]; omega
   ·
    go_wp2_with fail
    go_quiet (fail)
    go_wp2_with fail
    refine (rate_c xr _).mono ?_
    rintro e w' ⟨rfl, rfl⟩
    go_wp2_with fail
    refine (rate_c xe _).mono ?_
    rintro e w' ⟨rfl, rfl⟩
    go_wp2_with fail
    simp only [Exit.jump]
    go_ret
    refine ⟨⟨_, rfl, ?_⟩, below_drewN (hbl.alloc hsz _) _⟩
    unfold Hid
    rw [show n = k + 1 from by omega, ft9 (baz l) k HZ.out E0.out]
 ·
  intro HP
  have HP := hid HP
  go_upto_region 4 with (fail)
  go_step3
  simp only [Exit.then]
  rename_i hK
  exact hK _ _ (HP.out _ _ ⟨0, by omega, rfl, Below.refl _ _, ⟨_, _, _, _, _, _, _, _, _, _, _, _, _, _, _, _, _, _, _, _, _, _, _, _, _, _, _, _, _, _, _, _, _, _, _, _, _, _, _, _, _, _, _, _, _, _, _, _, _, _, _, _, _, _, _, _, _, _, _, _, _, _, rfl⟩⟩)
def Blz (w : World) (A : Option Addr) (n : Nat) (l : List Bd) : Prop := n = l.length ∧ n ≤ 9223372036854775807 ∧ (0 < n → ∃ b off, A = some ⟨b, off, none⟩ ∧ b < w.heap.size ∧ BandsAt w b off l)
theorem BandsAt.below {w w' : World} {b off : Nat} {l : List Bd} (h : BandsAt w b off l) (hlt : b < w.heap.size) (hb : Below w.heap.size w w') : BandsAt w' b off l := fun k hk => by
 obtain ⟨c0, c1, c2⟩ := h k hk
 exact ⟨(hb.cell (p := ⟨b, _, none⟩) hlt).trans c0, (hb.cell (p := ⟨b, _, none⟩) hlt).trans c1, (hb.cell (p := ⟨b, _, none⟩) hlt).trans c2⟩
theorem Blz.below {w w' : World} {A : Option Addr} {n : Nat} {l : List Bd} (h : Blz w A n l) (hb : Below w.heap.size w w') : Blz w' A n l := by
 obtain ⟨h1, h2, h3⟩ := h
 refine ⟨h1, h2, fun hn => ?_⟩
 obtain ⟨b, off, hA, hlt, hc⟩ := h3 hn
 refine ⟨b, off, hA, Nat.lt_of_lt_of_le hlt hb.size, fun k hk => ?_⟩
 obtain ⟨c0, c1, c2⟩ := hc k hk
 exact ⟨(hb.cell (p := ⟨b, _, none⟩) hlt).trans c0, (hb.cell (p := ⟨b, _, none⟩) hlt).trans c1, (hb.cell (p := ⟨b, _, none⟩) hlt).trans c2⟩
theorem bcheck_c (l : List Bd) (A : Option Addr) (n c : Nat) (w : World) (h : Blz w A n l) (r : Int) (hr : Hid (r = bE9 l)) :
  Calls prog 186 #[.slice A n c] w fun e w' => e = .returned (.int .i64 r) ∧ Below w.heap.size w w' := by
 obtain ⟨hn, hm, hc⟩ := h
 by_cases h1 : n = 0
 ·
  have e : r = 2 := by rw [hr.out]; unfold bE9; rw [if_pos (Or.inl (by omega))]
  subst e
  have hn1 : ((n : Int) == 0) = true := by simp; omega
  clear hc hn h1 hr
  go_enter func186, ntmps186
  go_wp2_with fail
  go_step3
  go_wp2_with fail
  simp only [Exit.noGoto_ret]
  go_ret
  exact ⟨rfl, Below.refl _ _⟩
 by_cases h2 : 8 < n
 ·
  have e : r = 2 := by rw [hr.out]; unfold bE9; rw [if_pos (Or.inr (by omega))]
  subst e
  have hn1 : ((n : Int) == 0) = false := by simp; omega
  have hn2 : (8 : Int) < (n : Int) := by omega
  clear hc hn h1 hr
  go_enter func186, ntmps186
  go_wp2_with fail
  go_step3
  go_wp2_with fail
  simp only [Exit.noGoto_ret]
  go_ret
  exact ⟨rfl, Below.refl _ _⟩
 obtain ⟨b, off, rfl, hb, hc⟩ := hc (by omega)
 refine (bcheck_loop l n b off c hn (by omega) (by omega) w hb hc).mono ?_
 rintro e w' ⟨⟨r', rfl, hr'⟩, hbl⟩
 refine ⟨ret_int ?_, hbl⟩
 rw [hr'.out, hr.out]
 unfold bE9
 rw [if_neg (by omega), hn]
structure GoodB (l : List Bd) (n : Nat) : Prop where
 len : n = l.length
 lo : 1 ≤ n
 hi : n ≤ 8
 f : ∀ k, k < n → 0 ≤ (l.getD k bd0).f ∧ (l.getD k bd0).f ≤ 100000000000
 f0 : (l.getD 0 bd0).f = 0
 m : ∀ k, k + 1 < n → (l.getD k bd0).f < (l.getD (k + 1) bd0).f
 r : ∀ k, k < n → 0 ≤ (l.getD k bd0).r ∧ (l.getD k bd0).r ≤ 10000
 e : ∀ k, k < n → 0 ≤ (l.getD k bd0).e ∧ (l.getD k bd0).e ≤ 10000
theorem goodB (l : List Bd) (h : bE9 l = 0) : GoodB l l.length := by
 unfold bE9 at h
 by_cases h1 : l.length = 0 ∨ 8 < l.length
 ·
  rw [if_pos h1] at h; cases h
 ·
  rw [if_neg h1] at h
  have h2 := faz _ _ h
  have key : ∀ k, k < l.length → ¬ ((l.getD k bd0).f < 0 ∨ 100000000000 < (l.getD k bd0).f ∨ (k = 0 ∧ (l.getD k bd0).f ≠ 0)) ∧ ¬ (0 < k ∧ (l.getD k bd0).f ≤ (l.getD (k - 1) bd0).f) ∧ (rateB (l.getD k bd0).r = true ∧ rateB (l.getD k bd0).e = true) := by
   intro k hk
   have h3 := h2 k hk
   unfold baz bandV at h3
   by_cases a1 : (l.getD k bd0).f < 0 ∨ 100000000000 < (l.getD k bd0).f ∨ (k = 0 ∧ (l.getD k bd0).f ≠ 0)
   ·
    rw [if_pos a1] at h3; cases h3
   ·
    rw [if_neg a1] at h3
    by_cases a2 : 0 < k ∧ (l.getD k bd0).f ≤ (l.getD (k - 1) bd0).f
    ·
     rw [if_pos a2] at h3; cases h3
    ·
     rw [if_neg a2] at h3
     by_cases a3 : rateB (l.getD k bd0).r = true ∧ rateB (l.getD k bd0).e = true
     ·
      exact ⟨a1, a2, a3⟩
     ·
      rw [if_pos a3] at h3; cases h3
  refine ⟨rfl, by omega, by omega, fun k hk => ?_, ?_, fun k hk => ?_, fun k hk => ?_, fun k hk => ?_⟩
  ·
   have := (key k hk).1; omega
  ·
   have := (key 0 (by omega)).1; omega
  ·
   have := (key (k + 1) hk).2.1
   rw [Nat.add_sub_cancel] at this
   omega
  ·
   exact riz.1 (key k hk).2.2.1
  ·
   exact riz.1 (key k hk).2.2.2
end Go.Proofs.YtiaabmhjkoohmaaGreat
