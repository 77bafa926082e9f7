/-
  Contracts of package band: what an amount comes to by bands. Conditions as named.
-/
import Derived.Test.YtankoappneglcaaBand
import Derived.Lib.MinMax
import Derived.Deep.RegionHeld3
namespace Go.Proofs.Ytankoappneglcaa
set_option linter.unusedVariables false
open Go.RowKit
--%%
theorem bwidth_c (x : Int) (i n b off c : Nat) (l : List Bd) (w : World) (g : GoodB l n) (hx : mrB x = true) (hi : i < n) (hb : b < w.heap.size) (hc : BandsAt w b off l) :
    Calls Try.prog 64 #[.int .i64 x, .int .i64 i, .slice (some ⟨b, off, none⟩) n c] w fun e w' => e = .returned (.int .i64 (widthI x (fun k => (l.getD k bd0).f) n i)) ∧ w = w' := by
  have hx' := mr_iff.1 hx
  have hn8 := g.hi
  have hf := g.f i hi
  obtain ⟨c0, _, _⟩ := hc i (by rw [← g.len]; exact hi)
  obtain ⟨v, hv⟩ : ∃ v, v = widthI x (fun k => (l.getD k bd0).f) n i := ⟨_, rfl⟩
  rw [← hv]
  unfold widthI pos at hv
  dsimp only at hv
  have i1 : ((i : Int) + 1).toNat = i + 1 := by omega
  by_cases h1 : i + 1 < n
  · obtain ⟨d0, _, _⟩ := hc (i + 1) (by rw [← g.len]; exact h1)
    have hf1 := g.f (i + 1) h1
    generalize (l.getD i bd0).f = f0 at *
    rw [if_pos h1] at hv
    generalize (l.getD (i + 1) bd0).f = f1 at *
    have HV := Lib.hid hv
    clear hv hc g
    go_enter Try.func64, Try.ntmps64
    go_wp2
    go_ret
    exact ⟨ret_int HV.out.symm, rfl⟩
  · generalize (l.getD i bd0).f = f0 at *
    rw [if_neg h1] at hv
    have HV := Lib.hid hv
    clear hv hc g
    go_enter Try.func64, Try.ntmps64
    go_wp2
    go_ret
    exact ⟨ret_int HV.out.symm, rfl⟩
--%%
theorem brate1_c (a r e : Int) (w : World) : Calls Try.prog 63 #[.agg #[.int .i64 a, .int .i64 r, .int .i64 e]] w fun e w' => e = .returned (.int .i64 r) ∧ Below w.heap.size w w' := by
  go_enter Try.func63, Try.ntmps63
  go_wp2
  go_ret
  exact ⟨rfl, below1 _ _⟩
--%%
/-- for a region that draws, with three cells of a band and what was there before -/
theorem sB3 {w W W1 : World} {b o0 o1 o2 : Nat} {v0 v1 v2 : Value} (hw : b < w.heap.size)
    (h : W.cell? ⟨b, o0, none⟩ = some v0 ∧ W.cell? ⟨b, o1, none⟩ = some v1 ∧ W.cell? ⟨b, o2, none⟩ = some v2 ∧ Below w.heap.size w W) (hb : Below W.heap.size W W1) :
    W1.cell? ⟨b, o0, none⟩ = some v0 ∧ W1.cell? ⟨b, o1, none⟩ = some v1 ∧ W1.cell? ⟨b, o2, none⟩ = some v2 ∧ Below w.heap.size w W1 := by
  have hlt : b < W.heap.size := Nat.lt_of_lt_of_le hw h.2.2.2.size
  exact ⟨(hb.cell (p := ⟨b, _, none⟩) hlt).trans h.1, (hb.cell (p := ⟨b, _, none⟩) hlt).trans h.2.1, (hb.cell (p := ⟨b, _, none⟩) hlt).trans h.2.2.1, h.2.2.2.trans (hb.mono h.2.2.2.size)⟩
--%%
set_option maxHeartbeats 1600000 in
theorem beach_loop1 (sel : Bd → Int) (hsel : ∀ (a r e : Int) (w : World), Calls Try.prog 63 #[.agg #[.int .i64 a, .int .i64 r, .int .i64 e]] w fun x w' => x = .returned (.int .i64 (sel ⟨a, r, e⟩)) ∧ Below w.heap.size w w')
    (x : Int) (n b off c : Nat) (l : List Bd) (w : World) (g : GoodB l n) (hs : ∀ k, k < n → 0 ≤ sel (l.getD k bd0) ∧ sel (l.getD k bd0) ≤ 10000) (hx : mrB x = true) (hb : b < w.heap.size) (hc : BandsAt w b off l) (T : Int) (hT : Hid (T = progS x (fun k => (l.getD k bd0).f) (fun k => sel (l.getD k bd0)) n n)) (hsl : BandSl w (some ⟨b, off, none⟩) n l) (hbe : Hid (0 = bandsErr l)) :
    Calls Try.prog 62 #[.int .i64 x, .slice (some ⟨b, off, none⟩) n c, .func (.func 63) #[] #[]] w fun e w' => e = .returned (.tuple #[.int .i64 T, .int .i64 0]) ∧ Below w.heap.size w w' := by
  have hx' := mr_iff.1 hx
  have hn8 := g.hi
  have HS := Lib.hid hsel
  clear hsel
  go_enter Try.func62, Try.ntmps62
  go_wp2_with fail
  refine wp_scope_goto 0 (fun a' w' => ∃ (k : Nat) (s : Int), k ≤ n ∧ Hid (s = progS x (fun k => (l.getD k bd0).f) (fun k => sel (l.getD k bd0)) n k) ∧ Below w.heap.size w w' ∧ ∃ (u3 u4 u5 u8 u11 u12 u13 u14 u15 u16 u17 u18 u19 u20 u21 u22 u23 u24 u25 u26 u27 u28 u29 u30 u31 u32 u33 u34 u35 u36 u37 u38 u39 u40 u41 u42 u43 u44 u45 u46 u47 u48 u49 u50 u51 u52 u53 u54 u55 u56 u57 : Value), a' = { tmps := #[.int .i64 x, .slice (some ⟨b, off, none⟩) n c, .func (.func 63) #[] #[], u3, u4, u5, .int .i64 0, .int .i64 0, u8, .int .i64 s, .int .i64 k, u11, u12, u13, u14, u15, u16, u17, u18, u19, u20, u21, u22, u23, u24, u25, u26, u27, u28, u29, u30, u31, u32, u33, u34, u35, u36, u37, u38, u39, u40, u41, u42, u43, u44, u45, u46, u47, u48, u49, u50, u51, u52, u53, u54, u55, u56, u57], defers := [] }) (fun a' _ => n - (intOf (a'.tmps.getD 10 undef)).toNat) rfl ?_ ?_
  · rintro a' w' ⟨k, s, hk, hs', hbl, hF⟩
    obtain ⟨u3, hF⟩ := hF; obtain ⟨u4, hF⟩ := hF; obtain ⟨u5, hF⟩ := hF; obtain ⟨u8, hF⟩ := hF; obtain ⟨u11, hF⟩ := hF; obtain ⟨u12, hF⟩ := hF; obtain ⟨u13, hF⟩ := hF; obtain ⟨u14, hF⟩ := hF; obtain ⟨u15, hF⟩ := hF; obtain ⟨u16, hF⟩ := hF; obtain ⟨u17, hF⟩ := hF; obtain ⟨u18, hF⟩ := hF; obtain ⟨u19, hF⟩ := hF; obtain ⟨u20, hF⟩ := hF; obtain ⟨u21, hF⟩ := hF; obtain ⟨u22, hF⟩ := hF; obtain ⟨u23, hF⟩ := hF; obtain ⟨u24, hF⟩ := hF; obtain ⟨u25, hF⟩ := hF; obtain ⟨u26, hF⟩ := hF; obtain ⟨u27, hF⟩ := hF; obtain ⟨u28, hF⟩ := hF; obtain ⟨u29, hF⟩ := hF; obtain ⟨u30, hF⟩ := hF; obtain ⟨u31, hF⟩ := hF; obtain ⟨u32, hF⟩ := hF; obtain ⟨u33, hF⟩ := hF; obtain ⟨u34, hF⟩ := hF; obtain ⟨u35, hF⟩ := hF; obtain ⟨u36, hF⟩ := hF; obtain ⟨u37, hF⟩ := hF; obtain ⟨u38, hF⟩ := hF; obtain ⟨u39, hF⟩ := hF; obtain ⟨u40, hF⟩ := hF; obtain ⟨u41, hF⟩ := hF; obtain ⟨u42, hF⟩ := hF; obtain ⟨u43, hF⟩ := hF; obtain ⟨u44, hF⟩ := hF; obtain ⟨u45, hF⟩ := hF; obtain ⟨u46, hF⟩ := hF; obtain ⟨u47, hF⟩ := hF; obtain ⟨u48, hF⟩ := hF; obtain ⟨u49, hF⟩ := hF; obtain ⟨u50, hF⟩ := hF; obtain ⟨u51, hF⟩ := hF; obtain ⟨u52, hF⟩ := hF; obtain ⟨u53, hF⟩ := hF; obtain ⟨u54, hF⟩ := hF; obtain ⟨u55, hF⟩ := hF; obtain ⟨u56, hF⟩ := hF; obtain ⟨u57, hF⟩ := hF; subst hF
    have hT' := hT.out
    have hs'' := hs'.out
    by_cases hkn : k = n
    · have tk : ((k : Int) == (n : Int)) = true := by simp; omega
      have e : T = s := by rw [hT', hs'', hkn]
      subst e
      clear hT' hs'' hkn
      go_wp2_with fail
      simp only [Exit.jump]
      go_ret2
      exact ⟨rfl, hbl⟩
    have tk : ((k : Int) == (n : Int)) = false := by simp; omega
    have hlt : k < n := by omega
    obtain ⟨c0, c1, c2⟩ := hc k (by rw [← g.len]; omega)
    rw [← hbl.cell (p := ⟨b, _, none⟩) hb] at c0 c1 c2
    have hsz := hbl.size
    by_cases hxf : x ≤ (l.getD k bd0).f
    · have e : T = s := by
        rw [hT', hs'']
        have := (prog_stop x (fun k => (l.getD k bd0).f) (fun k => sel (l.getD k bd0)) n g.m k hxf (n - k) (by omega)).1
        rw [show k + (n - k) = n by omega] at this
        exact this
      subst e
      clear hT' hs'' hkn
      generalize (l.getD k bd0).f = xf at *
      generalize (l.getD k bd0).r = xr at *
      generalize (l.getD k bd0).e = xe at *
      go_wp2_with fail
      simp only [Exit.jump]
      go_ret2
      exact ⟨rfl, hbl⟩
    obtain ⟨wd, hwd⟩ : ∃ wd, wd = widthI x (fun k => (l.getD k bd0).f) n k := ⟨_, rfl⟩
    obtain ⟨rt, hrt⟩ : ∃ rt, rt = sel (l.getD k bd0) := ⟨_, rfl⟩
    have hwb := width_bd x (fun k => (l.getD k bd0).f) n k (g.f k hlt).1 hx'.2
    have hrb := hs k hlt
    rw [← hwd] at hwb
    rw [← hrt] at hrb
    have hp := prog_bd x (fun k => (l.getD k bd0).f) (fun k => sel (l.getD k bd0)) n (fun i hi => (g.f i hi).1) hs hx'.2 k hk
    rw [← hs''] at hp
    have hp2 : s ≤ 8000000000000000 := by have : (k : Int) ≤ 8 := by omega
                                          omega
    have hwr := mul_bd0 hwb.1 hwb.2 hrb.1 hrb.2 (by decide)
    have hmw : mrB wd = true := mr_t (by omega)
    have hrr : rateB rt = true := rateB_iff.2 hrb
    have hnext : Hid (s + wd * rt = progS x (fun k => (l.getD k bd0).f) (fun k => sel (l.getD k bd0)) n (k + 1)) := by unfold Hid; rw [progS, ← hs'', ← hwd, ← hrt]
    have hW : Hid (∀ W : World, Below w.heap.size w W → Calls Try.prog 64 #[.int .i64 x, .int .i64 k, .slice (some ⟨b, off, none⟩) n c] W fun e w' => e = .returned (.int .i64 wd) ∧ W = w') := fun W hW => by
      rw [hwd]; exact bwidth_c x k n b off c l W g hx hlt (Nat.lt_of_lt_of_le hb hW.size) (hc.below hb hW)
    have hR : Hid (∀ W : World, Calls Try.prog 63 #[.agg #[.int .i64 (l.getD k bd0).f, .int .i64 (l.getD k bd0).r, .int .i64 (l.getD k bd0).e]] W fun e w' => e = .returned (.int .i64 rt) ∧ Below W.heap.size W w') := fun W => by
      rw [hrt]; exact HS.out _ _ _ W
    clear hT' hs'' hwd hrt hkn hs' hT hsl
    generalize (l.getD k bd0).f = xf at *
    generalize (l.getD k bd0).r = xr at *
    generalize (l.getD k bd0).e = xe at *
    clear hs HS hc g
    go_wp2_with fail
    go_region_held3 (fun W => W.cell? ⟨b, off + k * 3, none⟩ = some (.int .i64 xf) ∧ W.cell? ⟨b, off + k * 3 + 1, none⟩ = some (.int .i64 xr) ∧ W.cell? ⟨b, off + k * 3 + 2, none⟩ = some (.int .i64 xe) ∧ Below w.heap.size w W)
      (first | assumption | (refine ⟨?_, ?_, ?_, ?_⟩ <;> assumption) | exact ⟨c0, c1, c2, hbl.drew⟩ | (apply sB3 hb <;> assumption))
      (first | (go_at_call 64; refine (hW.out _ (by first | assumption | exact hbl.drew | exact (show _ ∧ _ ∧ _ ∧ _ from by assumption).2.2.2)).mono ?_; rintro e w1 ⟨rfl, rfl⟩) | (go_at_call 28; refine (part_t wd rt _ hmw hrr).mono ?_; rintro e w1 ⟨rfl, hb1⟩) | (go_at_call 63; refine (hR.out _).mono ?_; rintro e w1 ⟨rfl, hb1⟩))
    all_goals
      go_wp2_with fail
      go_step3
      refine ⟨rfl, ⟨k + 1, _, by omega, hnext, (by first | assumption | exact hbl.drew | exact (show _ ∧ _ ∧ _ ∧ _ from by assumption).2.2.2), ⟨_, _, _, _, _, _, _, _, _, _, _, _, _, _, _, _, _, _, _, _, _, _, _, _, _, _, _, _, _, _, _, _, _, _, _, _, _, _, _, _, _, _, _, _, _, _, _, _, _, _, _, rfl⟩⟩, ?_⟩
      simp [intOf]; omega
  · intro HP
    have HP := Lib.hid HP
    go_upto_region 7 with (first | (go_at_call 36; refine (bcheck_c l _ n c _ hsl 0 hbe).mono ?_; rintro e w1 ⟨rfl, hb1⟩) | (go_at_call 44; refine (right1 _ _ _ x _ (by simp)).mono ?_; rintro e w' ⟨rfl, rfl⟩))
    go_step3
    simp only [Exit.then]
    rename_i hK
    exact hK _ _ (HP.out _ _ ⟨0, 0, by omega, rfl, hb1.trans ((below1 _ _).mono hb1.size), ⟨_, _, _, _, _, _, _, _, _, _, _, _, _, _, _, _, _, _, _, _, _, _, _, _, _, _, _, _, _, _, _, _, _, _, _, _, _, _, _, _, _, _, _, _, _, _, _, _, _, _, _, rfl⟩⟩)
--%%
/-- what an amount comes to by bands, by one side's rates -/
def bandS (sel : Bd → Int) (l : List Bd) (x : Int) : Int := progS x (fun k => (l.getD k bd0).f) (fun k => sel (l.getD k bd0)) l.length l.length
--%%
theorem bexact1_c (x : Int) (l : List Bd) (A : Option Addr) (n c : Nat) (w : World) (h : BandSl w A n l) (hl : bandsErr l = 0) (hx : mrB x = true) :
    Calls Try.prog 59 #[.int .i64 x, .slice A n c] w fun e w' => e = .returned (.tuple #[.int .i64 (bandS (·.r) l x), .int .i64 0]) ∧ Below w.heap.size w w' := by
  have h' := h
  obtain ⟨hn, hm, hc⟩ := h'
  have g := goodB l hl
  have gl := g.lo
  obtain ⟨b, off, rfl, hb, hc⟩ := hc (by omega)
  have key := fun T hT => beach_loop1 (·.r) (fun a r e w => brate1_c a r e w) x n b off c l w (by rw [hn]; exact g) (by rw [hn]; exact g.r) hx hb hc T hT h hl.symm
  obtain ⟨T, hT⟩ : ∃ T, T = bandS (·.r) l x := ⟨_, rfl⟩
  have HK := Lib.hid (key T (by unfold Hid; rw [hT, bandS, hn]))
  rw [← hT]
  clear key hT g gl hc h hl hn
  go_enter Try.func59, Try.ntmps59
  go_wp2_with fail
  refine HK.out.mono ?_
  rintro e w1 ⟨rfl, hb1⟩
  go_wp2_with fail
  go_ret2
  exact ⟨rfl, hb1⟩
--%%
end Go.Proofs.Ytankoappneglcaa
