/-
  The walk of WholeTables. Conditions as named.
-/
import Derived.Test.YtcngmajkkhipoaaGreatDoorM3
import Derived.Test.YtcngmajkkhipoaaGreatDoorPutK
import Derived.Test.YtcngmajkkhipoaaGreatDoorLight
import Derived.Test.YtcngmajkkhipoaaGreatDoorKeep
import Derived.Test.YtcngmajkkhipoaaGreatDoorM0
import Derived.Deep.QuietTactic
import Derived.BigQuiet
import Derived.StillTailTactics
namespace Go.Proofs.YtcngmajkkhipoaaGreatDoor
set_option linter.unusedVariables false
open Go.RowKit
--%%
def StepS (u : Tb) (L : List ByteArray) (n : Nat) (old : Value) (w : World) (e : Ending) (w' : World) : Prop :=
  ((putE n L = 0 ∧ ∃ (As Ac Ak : Option Addr) (ns cs nc cc nk ck : Nat) (lim rnd : Int), e = .returned (.tuple #[.agg #[.slice As ns cs, .slice Ac nc cc, .slice Ak nk ck, .int .i64 lim, .int .i64 rnd], .int .i64 0]) ∧ (lim = (putV u L).lim ∧ rnd = (putV u L).rnd) ∧ OwnT w' w.heap.size (putV u L).sch (putV u L).cts (putV u L).kds As Ac Ak ns cs nc cc nk ck ∧ (L.getD 0 st0 = ⟨#[107, 105, 110, 100]⟩ → SepT w' As Ac ns nc)) ∨
   (putE n L ≠ 0 ∧ e = .returned (.tuple #[old, .int .i64 (putE n L)]))) ∧ Below w.heap.size w w'
theorem tstepS_c (u : Tb) (m : Nat) (hz : SzT u m) (hm9 : m ≤ 1000) (As Ac Ak : Option Addr) (ns cs nc cc nk ck : Nat) (lim rnd : Int) (hlr : lim = u.lim ∧ rnd = u.rnd) (A : Option Addr) (n c : Nat) (L : List ByteArray) (w : World) (v : TbIn w u.sch u.cts u.kds As Ac Ak ns cs nc cc nk ck) (hst : StSl w A n L) (hc : n ≤ c) (hL : n ≤ 1000) (hs : ∀ k, k < n → (L.getD k st0).size ≤ 1000000) (hm : ML w) (ht : TabS w) :
    Calls Tryz.prog 4 #[.agg #[.slice As ns cs, .slice Ac nc cc, .slice Ak nk ck, .int .i64 lim, .int .i64 rnd], .slice A n c] w (StepS u L n (.agg #[.slice As ns cs, .slice Ac nc cc, .slice Ak nk ck, .int .i64 lim, .int .i64 rnd]) w) := by
  by_cases hk : L.getD 0 st0 = ⟨#[107, 105, 110, 100]⟩
  case neg =>
    refine (tstep_c u m hz hm9 As Ac Ak ns cs nc cc nk ck lim rnd hlr A n c L w v hst hc hL hs hm ht).mono ?_
    rintro e w' ⟨⟨h0, As', Ac', Ak', ns', cs', nc', cc', nk', ck', lim', rnd', h1, h2, h3⟩ | h0, hb⟩
    · exact ⟨Or.inl ⟨h0, As', Ac', Ak', ns', cs', nc', cc', nk', ck', lim', rnd', h1, h2, h3, fun h => absurd h hk⟩, hb⟩
    · exact ⟨Or.inr h0, hb⟩
  by_cases h2 : 2 ≤ n
  case neg =>
    refine (tstep_c u m hz hm9 As Ac Ak ns cs nc cc nk ck lim rnd hlr A n c L w v hst hc hL hs hm ht).mono ?_
    rintro e w' ⟨⟨h0, _⟩ | h0, hb⟩
    · exfalso
      unfold putE at h0
      rw [if_pos (by omega)] at h0
      cases h0
    · exact ⟨Or.inr h0, hb⟩
  obtain ⟨rfl, rfl⟩ := hlr
  have e1 := v.s.1
  have e2 := v.c.1
  have e3 := v.k.1
  have z1 := hz.s
  have z2 := hz.c
  have z3 := hz.k
  obtain ⟨sch, cts, kds, lim, rnd⟩ := u
  have nk' : ∀ b : ByteArray, b ≠ ⟨#[107, 105, 110, 100]⟩ → ¬ L.getD 0 st0 = b := fun b hb h => hb (by rw [← h, hk])
  refine (tput_kindS sch cts kds As Ac Ak ns cs nc cc nk ck lim rnd A n c L w v.s v.c v.k ⟨by omega, by omega, by omega⟩ ⟨fun j hj => ?_, fun j hj => ?_⟩ hst hc hs hL hm ht h2 (nk' _ (by decide)) (nk' _ (by decide)) (nk' _ (by decide)) (nk' _ (by decide)) hk).mono ?_
  · have := getD_all (d := []) hz.sl (j := j) (by dsimp only at e1 z1 ⊢; omega); dsimp only at this; omega
  · have := getD_all (d := ct0) hz.cl (j := j) (by dsimp only at e2 z2 ⊢; omega); dsimp only at this; omega
  · rintro e w' ⟨⟨h0, As', cs', Ac', cc', Ak', ck', rfl, ho', hsp⟩ | ⟨h0, rfl⟩, hb⟩
    · exact ⟨Or.inl ⟨h0, As', Ac', Ak', _, cs', _, cc', _, ck', _, _, rfl, ⟨rfl, rfl⟩, ho', fun _ => hsp⟩, hb⟩
    · exact ⟨Or.inr ⟨h0, rfl⟩, hb⟩
/-- the last line is a kind's -/
theorem last_kind {t : Tb} (h : tbE t = 0) : ((tbW t).getD ((tbW t).length - 1) []).getD 0 [] = wKind := by
  obtain ⟨_, _, _, _, hk⟩ := tbE_ok h
  have hl : (tbW t).length = 2 + (t.sch.length + (t.cts.length + t.kds.length)) := by simp [tbW]; omega
  obtain ⟨n, hn⟩ : ∃ n, t.kds.length = n + 1 := ⟨t.kds.length - 1, by omega⟩
  have e : (tbW t).getD ((tbW t).length - 1) [] = kdW (t.kds.getD n kd0) := by
    rw [hl, hn]
    unfold tbW
    rw [show 2 + (t.sch.length + (t.cts.length + (n + 1))) - 1 = (t.sch.length + t.cts.length + n) + 1 + 1 by omega]
    simp only [List.getD_cons_succ]
    rw [List.getD_eq_getElem?_getD, List.getElem?_append_right (by simp; omega), List.getElem?_append_right (by simp; omega)]
    simp only [List.length_map]
    rw [show t.sch.length + t.cts.length + n - t.sch.length - t.cts.length = n by omega, List.getElem?_map]
    simp [List.getD, List.getElem?_eq_getElem (show n < t.kds.length by omega)]
  rw [e]
  rfl
theorem wsB_getJ {ws : List (List UInt8)} {j : Nat} (hj : j < ws.length) : (wsB ws).getD j st0 = mkB ws[j] := by
  unfold wsB
  rw [getD_get (by simpa using hj)]
  simp
theorem wsB_get0 {ws : List (List UInt8)} (hj : 0 < ws.length) : (wsB ws).getD 0 st0 = mkB (ws.getD 0 []) := by
  rw [wsB_getJ hj, getD_get hj]
theorem Blk.fiveS {w : World} {g : Nat} {t : TypeId} {a b c d e : Value} (h : Blk w g t #[a, b, c, d, e]) (v0 v1 v2 v3 v4 : Value) : Blk (((((w.setCell ⟨g, 0, none⟩ v0).setCell ⟨g, 1, none⟩ v1).setCell ⟨g, 2, none⟩ v2).setCell ⟨g, 3, none⟩ v3).setCell ⟨g, 4, none⟩ v4) g t #[v0, v1, v2, v3, v4] := ((((h.setJ 0 v0).setJ 1 v1).setJ 2 v2).setJ 3 v3).setJ 4 v4
theorem Blk.fiveSO {w : World} {g g0 : Nat} {t : TypeId} {cs : Array Value} (h : Blk w g t cs) (hne : g ≠ g0) (v0 v1 v2 v3 v4 : Value) : Blk (((((w.setCell ⟨g0, 0, none⟩ v0).setCell ⟨g0, 1, none⟩ v1).setCell ⟨g0, 2, none⟩ v2).setCell ⟨g0, 3, none⟩ v3).setCell ⟨g0, 4, none⟩ v4) g t cs := ((((h.setO hne 0 v0).setO hne 1 v1).setO hne 2 v2).setO hne 3 v3).setO hne 4 v4
theorem sep_nil (w : World) : SepT w none none 0 0 := ⟨0, (fun _ _ _ _ _ _ hA => by cases hA), (fun _ _ _ _ _ _ hA => by cases hA)⟩
--%%
def lim5 : List ByteArray := [⟨#[108, 105, 109, 105, 116]⟩, ⟨#[53]⟩]
theorem lim5_ok : putE 2 lim5 = 0 := by decide +kernel
theorem lim5_at {w : World} {g : Nat} (h : Blk w g 9 #[.string ⟨#[108, 105, 109, 105, 116]⟩, .string ⟨#[53]⟩]) : StSl w (some ⟨g, 0, none⟩) 2 lim5 := by
  refine ⟨rfl, by decide, fun _ => ⟨g, 0, rfl, h.lt, fun k hk i u hu => ?_⟩⟩
  have hi : i = 0 := by
    have := (List.getElem?_eq_some_iff.1 hu).1
    simp [stC] at this
    exact this
  subst hi
  rcases (by omega : k = 0 ∨ k = 1) with rfl | rfl
  · rw [h.cell]; exact hu
  · rw [h.cell]; exact hu
set_option maxRecDepth 100000 in
set_option maxHeartbeats 6400000 in
theorem wholeTables_row (sch : List (List Bd)) (cts : List Ct) (kds : List Kd) (As Ac Ak : Option Addr) (ns cs nc cc nk ck : Nat) (lim rnd : Int) (i by_ : Int) (w : World) (h : TbIn w sch cts kds As Ac Ak ns cs nc cc nk ck) (htab : Tab w) (htab2 : TabS w) (hml : ML w) :
    Calls Tryz.prog 3 #[.agg #[.slice As ns cs, .slice Ac nc cc, .slice Ak nk ck, .int .i64 lim, .int .i64 rnd], .int .i64 i, .int .i64 by_] w fun e w' => e = .returned (.bool true) ∧ Below w.heap.size w w' := by
  obtain ⟨t, ht⟩ : ∃ t : Tb, t = ⟨sch, cts, kds, lim, rnd⟩ := ⟨_, rfl⟩
  have hb0 := below1 w (.cells #[.slice As ns cs, .slice Ac nc cc, .slice Ak nk ck, .int .i64 lim, .int .i64 rnd] 26)
  have HB0 := Lib.hid hb0
  have HZ := Lib.hid (Blk.mk w 26 #[.slice As ns cs, .slice Ac nc cc, .slice Ak nk ck, .int .i64 lim, .int .i64 rnd])
  have HH := Lib.hid h
  have HT := Lib.hid htab
  have HT2 := Lib.hid htab2
  have HM := Lib.hid hml
  have KS : Hid (∀ W, Below w.heap.size w W → Calls Tryz.prog 6 #[.agg #[.slice As ns cs, .slice Ac nc cc, .slice Ak nk ck, .int .i64 lim, .int .i64 rnd]] W (LightR sch cts kds W)) := fun W hW => light_c sch cts kds As Ac Ak ns cs nc cc nk ck lim rnd W (h.s.below hW) (h.c.below hW) (h.k.below hW)
  obtain ⟨r, hr⟩ : ∃ r, r = tbE t := ⟨_, rfl⟩
  have KW : Hid (∀ W, Below w.heap.size w W → Calls Tryz.prog 7 #[.agg #[.slice As ns cs, .slice Ac nc cc, .slice Ak nk ck, .int .i64 lim, .int .i64 rnd]] W fun e w' => e = .returned (.int .i64 r) ∧ Below W.heap.size W w') := fun W hW => xcheck_c sch cts kds As Ac Ak ns cs nc cc nk ck lim rnd W (h.s.below hW) (h.c.below hW) h.cc (h.k.below hW) h.ck r (by unfold Hid; rw [hr, ht])
  have KL : Hid (∀ W, Below w.heap.size w W → Calls Tryz.prog 8 #[.agg #[.slice As ns cs, .slice Ac nc cc, .slice Ak nk ck, .int .i64 lim, .int .i64 rnd]] W (LinesR t W)) := fun W hW => by
    have := tlines_c t As Ac Ak ns cs nc cc nk ck W (by rw [ht]; exact ⟨h.s.below hW, h.c.below hW, h.k.below hW, h.cs, h.cc, h.ck⟩) (htab.t hW) (htab2.t hW)
    rw [ht] at this ⊢
    exact this
  have HR := Lib.hid hr
  have HTT := Lib.hid ht
  have KP0 : Hid (Calls Tryz.prog 4 #[.agg #[.slice none 0 0, .slice none 0 0, .slice none 0 0, .int .i64 0, .int .i64 0], .slice (some ⟨w.heap.size + 1, 0, none⟩) 2 2] ((w.alloc (.cells #[.slice As ns cs, .slice Ac nc cc, .slice Ak nk ck, .int .i64 lim, .int .i64 rnd] 26)).alloc (.cells #[.string ⟨#[108, 105, 109, 105, 116]⟩, .string ⟨#[53]⟩] 9)) (PutR tb0 none none none 0 0 0 0 0 0 2 lim5 ((w.alloc (.cells #[.slice As ns cs, .slice Ac nc cc, .slice Ak nk ck, .int .i64 lim, .int .i64 rnd] 26)).alloc (.cells #[.string ⟨#[108, 105, 109, 105, 116]⟩, .string ⟨#[53]⟩] 9)))) := by
    have hb1 := bA hb0 (.cells #[.string ⟨#[108, 105, 109, 105, 116]⟩, .string ⟨#[53]⟩] 9)
    have hz := OwnT.nil ((w.alloc (.cells #[.slice As ns cs, .slice Ac nc cc, .slice Ak nk ck, .int .i64 lim, .int .i64 rnd] 26)).alloc (.cells #[.string ⟨#[108, 105, 109, 105, 116]⟩, .string ⟨#[53]⟩] 9)) 0
    refine tput_c tb0 none none none 0 0 0 0 0 0 (some ⟨w.heap.size + 1, 0, none⟩) 2 2 lim5 ((w.alloc (.cells #[.slice As ns cs, .slice Ac nc cc, .slice Ak nk ck, .int .i64 lim, .int .i64 rnd] 26)).alloc (.cells #[.string ⟨#[108, 105, 109, 105, 116]⟩, .string ⟨#[53]⟩] 9)) hz.view.s hz.view.c hz.view.k ⟨by decide, by decide, by decide⟩ ⟨fun j hj => absurd hj (by omega), fun j hj => absurd hj (by omega)⟩ ?_ (Nat.le_refl _) (fun k hk => ?_) (by decide) (hml.t hb1) (htab2.t hb1)
    · exact lim5_at (by
        have := Blk.mk (w.alloc (.cells #[.slice As ns cs, .slice Ac nc cc, .slice Ak nk ck, .int .i64 lim, .int .i64 rnd] 26)) 9 #[.string ⟨#[108, 105, 109, 105, 116]⟩, .string ⟨#[53]⟩]
        rw [World.size_alloc] at this
        exact this)
    · rcases (by omega : k = 0 ∨ k = 1) with rfl | rfl <;> decide
  have KC0 : Hid (∀ W, Calls Tryz.prog 5 #[.agg #[.slice none 0 0, .slice none 0 0, .slice none 0 0, .int .i64 0, .int .i64 0]] W fun e w' => e = .returned (.int .i64 1) ∧ Below W.heap.size W w') := fun W => by
    have := kcomp_c none none none 0 0 0 0 0 0 0 0 W (by decide)
    simpa using this
  clear hb0 h htab htab2 hml hr ht
  go_enter Tryz.func3, Tryz.ntmps3
  go_wp2_with fail
  refine KP0.out.mono ?_
  rintro e w1 ⟨⟨_, As', cs', Ac', cc', Ak', ck', rfl, _⟩ | ⟨hp, _⟩, hb1⟩
  case inr => exact absurd lim5_ok hp
  have HB1 := Lib.hid (bT (bA HB0.out (.cells #[.string ⟨#[108, 105, 109, 105, 116]⟩, .string ⟨#[53]⟩] 9)) hb1)
  have HZ1 := Lib.hid ((HZ.out.alloc (.cells #[.string ⟨#[108, 105, 109, 105, 116]⟩, .string ⟨#[53]⟩] 9)).t hb1)
  simp only [tbV]
  generalize (putV tb0 lim5).sch.length = q1
  generalize (putV tb0 lim5).cts.length = q2
  generalize (putV tb0 lim5).kds.length = q3
  generalize (putV tb0 lim5).lim = q4
  generalize (putV tb0 lim5).rnd = q5
  clear hb1 KP0 HZ
  go_wp2_with fail
  refine (KC0.out _).mono ?_
  rintro e w2 ⟨rfl, hb2⟩
  have HB2 := Lib.hid (bT (bA HB1.out (.cells #[.slice As' q1 cs', .slice Ac' q2 cc', .slice Ak' q3 ck', .int .i64 q4, .int .i64 q5] 26)) hb2)
  have HZ2 := Lib.hid ((HZ1.out.alloc (.cells #[.slice As' q1 cs', .slice Ac' q2 cc', .slice Ak' q3 ck', .int .i64 q4, .int .i64 q5] 26)).t hb2)
  obtain ⟨p0, p1, p2, p3, p4⟩ := HZ2.out.all5
  clear hb2 HZ1 KC0
  go_wp2_with fail
  refine (KS.out _ HB2.out).mono ?_
  rintro e w3 ⟨b, ⟨rfl, hsm⟩, hb3⟩
  have HSM := Lib.hid hsm
  have HB3 := Lib.hid (bT HB2.out hb3)
  have HZ3 := Lib.hid (HZ2.out.t hb3)
  clear hb3 p0 p1 p2 p3 p4 KS hsm HZ2
  cases b
  · go_wp2_with fail
    go_ret
    exact ⟨rfl, HB3.out⟩
  obtain ⟨p0, p1, p2, p3, p4⟩ := HZ3.out.all5
  go_wp2_with fail
  refine (KW.out _ HB3.out).mono ?_
  rintro e w4 ⟨rfl, hb4⟩
  have HB4 := Lib.hid (bT HB3.out hb4)
  have HZ4 := Lib.hid (HZ3.out.t hb4)
  clear hb4 p0 p1 p2 p3 p4 KW HZ3
  by_cases h0 : r = 0
  case neg =>
    have v0 : (r != 0) = true := by simpa using h0
    clear h0
    go_wp2_with fail
    go_ret
    exact ⟨rfl, HB4.out⟩
  subst h0
  have HE : Hid (tbE t = 0) := HR.out.symm
  clear HR
  by_cases hi : i < 0
  case pos =>
    have v1 : decide (i < 0) = true := by simpa using hi
    clear hi
    go_wp2_with fail
    go_ret
    exact ⟨rfl, HB4.out⟩
  have v1 : decide (i < 0) = false := by simpa using hi
  by_cases hb : by_ < 0
  case pos =>
    have v2 : decide (by_ < 0) = true := by simpa using hb
    clear hb
    go_wp2_with fail
    go_ret
    exact ⟨rfl, HB4.out⟩
  have v2 : decide (by_ < 0) = false := by simpa using hb
  by_cases hb2 : 10000 < by_
  case pos =>
    have v3 : decide (10000 < by_) = true := by simpa using hb2
    clear hb2
    go_wp2_with fail
    go_ret
    exact ⟨rfl, HB4.out⟩
  have v3 : decide (10000 < by_) = false := by simpa using hb2
  have HB4a := Lib.hid (bA HB4.out (.cells #[.slice none 0 0, .slice none 0 0, .slice none 0 0, .int .i64 0, .int .i64 0] 26))
  have HZ4a := Lib.hid (HZ4.out.alloc (.cells #[.slice none 0 0, .slice none 0 0, .slice none 0 0, .int .i64 0, .int .i64 0] 26))
  have HU4 := Lib.hid (Blk.mk w4 26 #[.slice none 0 0, .slice none 0 0, .slice none 0 0, .int .i64 0, .int .i64 0])
  obtain ⟨p0, p1, p2, p3, p4⟩ := HZ4a.out.all5
  have hne : w.heap.size < w4.heap.size := HZ4.out.lt
  have hlw : w.heap.size ≤ (w4.alloc (.cells #[.slice none 0 0, .slice none 0 0, .slice none 0 0, .int .i64 0, .int .i64 0] 26)).heap.size := HB4a.out.size
  go_wp2_with fail
  refine (KL.out _ HB4a.out).mono ?_
  rintro e w5 ⟨hl, hb5⟩
  rcases hl with ⟨_, v, rfl, hov⟩ | ⟨hl, _⟩
  case inr => exact absurd HE.out hl
  obtain ⟨AL, cL, rfl⟩ := own_slice hov.2
  have HOL := Lib.hid (row_mono hov.2 hlw)
  have HNL : Hid ((tbL t).length = (tbW t).length) := tbL_n t
  have HB5 := Lib.hid (bT HB4a.out hb5)
  have HZ5 := Lib.hid (HZ4a.out.t hb5)
  have HU5 := Lib.hid (HU4.out.t hb5)
  clear hov hb5 p0 p1 p2 p3 p4 KL HZ4 HZ4a HU4 HB4a hlw v1 v2 v3
  have hN : Hid ((tbL t).length ≤ 100) := by
    obtain ⟨_, s8, c6, k12, _⟩ := tbE_ok HE.out
    have := tbL_len t
    unfold Hid
    omega
  generalize hNN : (tbL t).length = N at *
  have hN9 := hN.out
  have HLL : Hid ((tbL t).length = N) := hNN
  clear hNN
  go_wp2_with fail
  go_loopw [62] (fun ci wr => ∃ (k : Nat) (Us Uc Uk : Option Addr) (us vs uc vc uk vk : Nat) (ul ur : Int), k ≤ N ∧ ci = .int .i64 k ∧ Hid (ul = (stT t k).lim ∧ ur = (stT t k).rnd) ∧ Hid (OwnT wr w.heap.size (stT t k).sch (stT t k).cts (stT t k).kds Us Uc Uk us vs uc vc uk vk) ∧ Below w.heap.size w wr ∧ Hid (Blk wr w.heap.size 26 #[.slice As ns cs, .slice Ac nc cc, .slice Ak nk ck, .int .i64 lim, .int .i64 rnd]) ∧ Blk wr w4.heap.size 26 #[.slice Us us vs, .slice Uc uc vc, .slice Uk uk vk, .int .i64 ul, .int .i64 ur] ∧ Hid (wr.ownsRow w.heap.size 9 1 (.slice AL N cL) N ((tbL t).flatMap stC)) ∧ Hid (k = N → SepT wr Us Uc us uc)) (fun ci _ => N - (intOf ci).toNat)
  case atStart => exact ⟨0, none, none, none, 0, 0, 0, 0, 0, 0, 0, 0, Nat.zero_le _, rfl, ⟨rfl, rfl⟩, OwnT.nil _ _, HB5.out, HZ5.out, HU5.out, HOL.out, fun _ => sep_nil _⟩
  clear HOL HB5 HZ5 HU5
  case round =>
    obtain ⟨k, Us, Uc, Uk, us, vs, uc, vc, uk, vk, ul, ur, hk', rfl, HLR, HO, hbl, HZR, z2, HOL, HSEP⟩ := hrel
    by_cases hk : k < N
    case pos =>
      obtain ⟨A0, c0', he0, hnc0, hst0⟩ := own_sl stC 1 st0 stC_len HOL.out HLL.out.symm (by decide)
      injection he0 with y1 _ y2
      subst y1; subst y2
      obtain ⟨b, off, rfl, hlt, hat⟩ := hst0.2.2 (by omega)
      have q := hat k hk 0 _ rfl
      have hkW : k < (tbW t).length := by rw [← HNL.out]; exact hk
      have HCUT := Lib.hid (line_cut HE.out k hkW)
      have HSML := Lib.hid (line_small HE.out k hkW)
      have HWS := Lib.hid (words_small HE.out k hkW)
      have HST := Lib.hid (stT_step t k hkW)
      have HSZ := Lib.hid (stT_sz HE.out k (by omega))
      have HLN := Lib.hid (tb_lines HE.out _ (getD_mem (d := []) hkW))
      have HKN : Hid (k + 1 = N → (wsB ((tbW t).getD k [])).getD 0 st0 = ⟨#[107, 105, 110, 100]⟩) := fun h => by
        have h2 := HLN.out.two
        have h3 := last_kind HE.out
        rw [show (tbW t).length - 1 = k by have := HNL.out; omega] at h3
        rw [wsB_get0 (by omega), h3]
        rfl
      have HMX : Hid (∀ j, j < ((tbW t).getD k []).length → ((wsB ((tbW t).getD k [])).getD j st0).size ≤ 1000000) := fun j hj => by
        rw [wsB_getJ hj, mkB_size]
        have h1 := (cutR_size ((tbL t).getD k st0).data.toList).1
        rw [HCUT.out] at h1
        have := h1 _ (List.getElem_mem hj)
        omega
      generalize (tbL t).getD k st0 = ln at *
      generalize (tbW t).getD k [] = ws at *
      have KC := Lib.hid (fun W => cut_c ln W (by have := HSML.out; omega) (0, ws) (by unfold Hid; exact HCUT.out.symm))
      simp only [Nat.mul_one, Nat.add_zero] at q
      clear hat hst0 hnc0 HSEP
      go_wp2_with fail
      refine (KC.out _).mono ?_
      rintro e w6 ⟨hcut | hcut, hb6⟩
      case inr => exact absurd rfl hcut.1
      obtain ⟨_, v, rfl, hov⟩ := hcut
      obtain ⟨A, c, rfl, hnc, hst⟩ := own_sl stC 1 st0 stC_len hov.2 hov.1 (by decide)
      have z6 := z2.t hb6
      have hB6 := bT hbl hb6
      have KP := Lib.hid (tstepS_c (stT t k) k HSZ.out (by omega) Us Uc Uk us vs uc vc uk vk ul ur HLR.out A ws.length c (wsB ws) w6 (HO.out.below hb6).view hst hnc (by have := HWS.out; omega) HMX.out (HM.out.t hB6) (HT2.out.t hB6))
      have HB6 := Lib.hid hB6
      have HZ6 := Lib.hid (HZR.out.t hb6)
      have HO6 := Lib.hid (own_below HOL.out hb6)
      obtain ⟨p0, p1, p2, p3, p4⟩ := z6.all5
      have hpe := HLN.out.put
      clear KC hov hnc hst hB6 hbl HZR HOL HO HLR z2 q hb6
      go_wp2_with fail
      refine KP.out.mono ?_
      rintro e w7 ⟨hp | hp, hb7⟩
      case inr => exact absurd hpe hp.1
      obtain ⟨_, Us2, Uc2, Uk2, us2, vs2, uc2, vc2, uk2, vk2, ul2, ur2, rfl, hlr2, ho2, hsp2⟩ := hp
      have HLR2 : Hid (ul2 = (stT t (k + 1)).lim ∧ ur2 = (stT t (k + 1)).rnd) := by rw [HST.out]; exact hlr2
      have HO2 : Hid (OwnT w7 w.heap.size (stT t (k + 1)).sch (stT t (k + 1)).cts (stT t (k + 1)).kds Us2 Uc2 Uk2 us2 vs2 uc2 vc2 uk2 vk2) := by rw [HST.out]; exact ho2.mono HB6.out.size
      have z7 := z6.t hb7
      obtain ⟨⟨p0, p1, p2, p3, p4⟩, f0, f1, f2, f3, f4⟩ := z7.a5g
      have HO9 := Lib.hid (HO2.out.set5 z7 (.slice Us2 us2 vs2) (.slice Uc2 uc2 vc2) (.slice Uk2 uk2 vk2) (.int .i64 ul2) (.int .i64 ur2))
      have HSE9 : Hid (k + 1 = N → SepT (((((w7.setCell ⟨w4.heap.size, 0, none⟩ (.slice Us2 us2 vs2)).setCell ⟨w4.heap.size, 1, none⟩ (.slice Uc2 uc2 vc2)).setCell ⟨w4.heap.size, 2, none⟩ (.slice Uk2 uk2 vk2)).setCell ⟨w4.heap.size, 3, none⟩ (.int .i64 ul2)).setCell ⟨w4.heap.size, 4, none⟩ (.int .i64 ur2)) Us2 Uc2 us2 uc2) := fun h => (hsp2 (HKN.out h)).five5 HO2.out z7 _ _ _ _ _
      have HB9 := Lib.hid (bS5s (bT HB6.out hb7) (Nat.le_of_lt hne) (.slice Us2 us2 vs2) (.slice Uc2 uc2 vc2) (.slice Uk2 uk2 vk2) (.int .i64 ul2) (.int .i64 ur2))
      have HU9 := Lib.hid (z7.fiveS (.slice Us2 us2 vs2) (.slice Uc2 uc2 vc2) (.slice Uk2 uk2 vk2) (.int .i64 ul2) (.int .i64 ur2))
      have HZ9 := Lib.hid ((HZ6.out.t hb7).fiveSO (by omega : w.heap.size ≠ w4.heap.size) (.slice Us2 us2 vs2) (.slice Uc2 uc2 vc2) (.slice Uk2 uk2 vk2) (.int .i64 ul2) (.int .i64 ur2))
      have HL9 := Lib.hid (own_set5 (own_below HO6.out hb7) z7 (by decide) (.slice Us2 us2 vs2) (.slice Uc2 uc2 vc2) (.slice Uk2 uk2 vk2) (.int .i64 ul2) (.int .i64 ur2))
      clear hlr2 ho2 hb7 z7 z6 KP HB6 HZ6 HO6 hpe HO2 hsp2 HKN
      go_wp2_with fail
      go_roundw
      case rel => exact ⟨k + 1, Us2, Uc2, Uk2, us2, vs2, uc2, vc2, uk2, vk2, ul2, ur2, by omega, by go_num, HLR2.out, HO9.out, HB9.out, HZ9.out, HU9.out, HL9.out, HSE9.out⟩
      case measure => simp [intOf]; omega
    obtain rfl : k = N := by omega
    have HEND : Hid (stT t k = ⟨sch, cts, kds, lim, rnd⟩) := by unfold Hid; rw [HNL.out, stT_end HE.out]; exact HTT.out
    have ho := HO.out
    rw [HEND.out] at ho
    obtain rfl : ul = lim := HLR.out.1.trans (by rw [HEND.out])
    obtain rfl : ur = rnd := HLR.out.2.trans (by rw [HEND.out])
    have HV := Lib.hid ho
    have HSP := Lib.hid (HSEP.out rfl)
    have HZ2' := Lib.hid z2
    have HBL := Lib.hid hbl
    have HE2 : Hid (tbE ⟨sch, cts, kds, ul, ur⟩ = 0) := by rw [← HTT.out]; exact HE.out
    obtain ⟨re, hre⟩ : ∃ re, re = keepE ⟨sch, cts, kds, ul, ur⟩ := ⟨_, rfl⟩
    have HRE := Lib.hid hre
    have KU : Hid (∀ W, Below wr.heap.size wr W → Calls Tryz.prog 10 #[.agg #[.slice Us us vs, .slice Uc uc vc, .slice Uk uk vk, .int .i64 ul, .int .i64 ur]] W fun e w' => e = .returned (.int .i64 re) ∧ Below W.heap.size W w') := fun W hW => by
      have v := (HV.out.below hW).view
      exact kcheck_c ⟨sch, cts, kds, ul, ur⟩ Us Uc Uk us vs uc vc uk vk ul ur W v.s v.c v.cc v.k v.ck rfl rfl re HRE
    have KT : Hid (∀ W, Below wr.heap.size wr W → Calls Tryz.prog 10 #[.agg #[.slice As ns cs, .slice Ac nc cc, .slice Ak nk ck, .int .i64 ul, .int .i64 ur]] W fun e w' => e = .returned (.int .i64 re) ∧ Below W.heap.size W w') := fun W hW => by
      have h := HH.out
      have hb := bT HBL.out hW
      exact kcheck_c ⟨sch, cts, kds, ul, ur⟩ As Ac Ak ns cs nc cc nk ck ul ur W (h.s.below hb) (h.c.below hb) h.cc (h.k.below hb) h.ck rfl rfl re HRE
    have KWT : Hid (∀ W, Below wr.heap.size wr W → Calls Tryz.prog 11 #[.agg #[.slice As ns cs, .slice Ac nc cc, .slice Ak nk ck, .int .i64 ul, .int .i64 ur]] W (KwR ⟨sch, cts, kds, ul, ur⟩ W)) := fun W hW => by
      have h := HH.out
      have hb := bT HBL.out hW
      exact kworst_c ⟨sch, cts, kds, ul, ur⟩ As Ac Ak ns cs nc cc nk ck ul ur W (h.s.below hb) (h.c.below hb) h.cc (h.k.below hb) h.ck rfl rfl
    have G : Hid (∀ W, Below wr.heap.size wr W → Below wr.heap.size wr W ∧ ((W.cell? ⟨w.heap.size, 0, none⟩ = some (.slice As ns cs) ∧ W.cell? ⟨w.heap.size, 1, none⟩ = some (.slice Ac nc cc) ∧ W.cell? ⟨w.heap.size, 2, none⟩ = some (.slice Ak nk ck) ∧ W.cell? ⟨w.heap.size, 3, none⟩ = some (.int .i64 ul) ∧ W.cell? ⟨w.heap.size, 4, none⟩ = some (.int .i64 ur)) ∧ (W.cell? ⟨w4.heap.size, 0, none⟩ = some (.slice Us us vs) ∧ W.cell? ⟨w4.heap.size, 1, none⟩ = some (.slice Uc uc vc) ∧ W.cell? ⟨w4.heap.size, 2, none⟩ = some (.slice Uk uk vk) ∧ W.cell? ⟨w4.heap.size, 3, none⟩ = some (.int .i64 ul) ∧ W.cell? ⟨w4.heap.size, 4, none⟩ = some (.int .i64 ur)))) := fun W hW => ⟨hW, (HZR.out.t hW).all5, (HZ2'.out.t hW).all5⟩
    clear ho HO HLR z2 hbl HOL hk hk' HEND hre HSEP
    go_wp2_with fail
    go_region_held3 (fun W => Below wr.heap.size wr W ∧ ((W.cell? ⟨w.heap.size, 0, none⟩ = some (.slice As ns cs) ∧ W.cell? ⟨w.heap.size, 1, none⟩ = some (.slice Ac nc cc) ∧ W.cell? ⟨w.heap.size, 2, none⟩ = some (.slice Ak nk ck) ∧ W.cell? ⟨w.heap.size, 3, none⟩ = some (.int .i64 ul) ∧ W.cell? ⟨w.heap.size, 4, none⟩ = some (.int .i64 ur)) ∧ (W.cell? ⟨w4.heap.size, 0, none⟩ = some (.slice Us us vs) ∧ W.cell? ⟨w4.heap.size, 1, none⟩ = some (.slice Uc uc vc) ∧ W.cell? ⟨w4.heap.size, 2, none⟩ = some (.slice Uk uk vk) ∧ W.cell? ⟨w4.heap.size, 3, none⟩ = some (.int .i64 ul) ∧ W.cell? ⟨w4.heap.size, 4, none⟩ = some (.int .i64 ur))))
      (first | assumption | exact G.out _ (b0 _).drew | (exact sK G.out (by assumption) (by assumption)))
      (first
        | (go_at_call 10; (with_reducible refine (KU.out _ (show Below wr.heap.size wr _ ∧ _ ∧ _ from by assumption).1).mono ?_); rintro e w8 ⟨rfl, hb8⟩)
        | (go_at_call 10; (with_reducible refine (KT.out _ (show Below wr.heap.size wr _ ∧ _ ∧ _ from by assumption).1).mono ?_); rintro e w9 ⟨rfl, hb9⟩))
    have HB9 := Lib.hid (show Below wr.heap.size wr w9 ∧ _ from by assumption).1
    have HT9 := Lib.hid (HZR.out.t HB9.out)
    obtain ⟨p0, p1, p2, p3, p4⟩ := HT9.out.all5
    clear KU KT
    simp only [Exit.then]
    go_wp2_with fail
    refine (KWT.out _ HB9.out).mono ?_
    rintro e w10 ⟨⟨_, s1, a1, V1, n1, c1, rfl⟩ | ⟨hn, _⟩, hb10⟩
    case inr => exact absurd HE2.out hn
    obtain ⟨z, hz⟩ : ∃ z, z = keptI ⟨sch, cts, kds, ul, ur⟩ := ⟨_, rfl⟩
    rw [← hz]
    have HZ := Lib.hid hz
    have HB10 := Lib.hid (bA (bT HB9.out hb10) (.cells #[.int .i64 s1, .int .i64 a1, .slice V1 n1 c1, .int .i64 z] 39))
    have HC10 := Lib.hid (Blk.mk w10 39 #[.int .i64 s1, .int .i64 a1, .slice V1 n1 c1, .int .i64 z])
    have HO10 := Lib.hid (HV.out.below HB10.out)
    have HS10 : Hid (SepT (w10.alloc (.cells #[.int .i64 s1, .int .i64 a1, .slice V1 n1 c1, .int .i64 z] 39)) Us Uc us uc) := HSP.out.belowT HV.out HB10.out
    have HU10 := Lib.hid (HZ2'.out.t HB10.out)
    have HT10 := Lib.hid (HZR.out.t HB10.out)
    obtain ⟨o, o2, _⟩ := tb_of HE2.out
    obtain ⟨e1, e2, e3⟩ := HO10.out.len
    have hus : 1 ≤ us := by have := o.sn; dsimp only at this; omega
    have hus8 : us ≤ 8 := by dsimp only at o2; omega
    obtain ⟨ni, rfl⟩ : ∃ ni : Nat, i = (ni : Int) := ⟨i.toNat, by omega⟩
    obtain ⟨sn, hsn⟩ : ∃ sn : Nat, sn = ni % us := ⟨_, rfl⟩
    have hslt : sn < us := by rw [hsn]; exact Nat.mod_lt _ (by omega)
    have hmod : (ni : Int) % (us : Int) = (sn : Int) := by
      rw [hsn]
      exact (Int.natCast_emod ni us).symm
    obtain ⟨g0, A, m, c, hA, hvs, ⟨cur0, hblk⟩, hrow, hob⟩ := HO10.out.rowS hslt
    subst hA
    have hm0 : 1 ≤ m := by
      have g := goodB _ (o.sch sn (by dsimp only; omega)).bands
      have h1 := (o.sch sn (by dsimp only; omega)).bands
      rw [hob.1]
      rcases Nat.eq_zero_or_pos (sch.getD sn []).length with h0 | h0
      · unfold bandsErr at h1
        rw [if_pos (Or.inl h0)] at h1
        cases h1
      · exact h0
    have HMOD := Lib.hid hmod
    have HOB := Lib.hid hob
    obtain ⟨q0, q1', q2', q3', q4'⟩ := HU10.out.all5
    clear hb10 p0 p1 p2 p3 p4 KWT hz hsn hob o hmod e1 e2 e3 o2
    have i1 : (0 : Int) ≤ (sn : Int) := by omega
    have i2 : (sn : Int) < (us : Int) := by omega
    have i3 : ((sn : Int)).toNat = sn := by omega
    have i4 : ((us : Int) == 0) = false := by simp; omega
    have hmod := HMOD.out
    go_wp2_with fail
    go_quiet (fail)
    have HO11 := Lib.hid (HO10.out.below (bD (b0 _) nq))
    have HS11 := Lib.hid (HS10.out.belowT HO10.out (bD (b0 _) nq))
    have HU11 := Lib.hid (HU10.out.t (bD (b0 _) nq))
    have HT11 := Lib.hid (HT10.out.t (bD (b0 _) nq))
    have HC11 := Lib.hid (HC10.out.t (bD (b0 _) nq))
    have HB11 := Lib.hid (bT HBL.out (bD HB10.out nq))
    have HOB11 : Hid (OwnB ((w10.alloc (.cells #[.int .i64 s1, .int .i64 a1, .slice V1 n1 c1, .int .i64 z] 39)).drewN nq) w.heap.size (.slice A m c) m (sch.getD sn [])) := HOB.out.below (bD (b0 _) nq)
    have hrow1 : ((w10.alloc (.cells #[.int .i64 s1, .int .i64 a1, .slice V1 n1 c1, .int .i64 z] 39)).drewN nq).cell? ⟨g0, sn, none⟩ = some (.slice A m c) := hrow
    have HROW := Lib.hid hrow1
    have hbk1 : Blk ((w10.alloc (.cells #[.int .i64 s1, .int .i64 a1, .slice V1 n1 c1, .int .i64 z] 39)).drewN nq) g0 42 cur0 := hblk
    have HBK := Lib.hid hbk1
    clear hblk hbk1 hrow hrow1 HO10 HS10 HU10 HT10 HC10 HB10 HOB q0 q1' q2' q3' q4' hmod i1 i2 i3 i4 HMOD
    simp only [Exit.then]
    generalize (w10.alloc (.cells #[.int .i64 s1, .int .i64 a1, .slice V1 n1 c1, .int .i64 z] 39)).drewN nq = wd at *
    obtain ⟨kn, hkn⟩ : ∃ kn : Nat, kn = ni % m := ⟨_, rfl⟩
    have hklt : kn < m := by rw [hkn]; exact Nat.mod_lt _ (by omega)
    have hmod : (ni : Int) % (m : Int) = (kn : Int) := by
      rw [hkn]
      exact (Int.natCast_emod ni m).symm
    obtain ⟨g, hA, hgb, ⟨cur, hg⟩, hcell, hfz⟩ := HOB11.out.at hklt
    have HG := Lib.hid hg
    subst hA
    have hsc := (tb_of HE2.out).1.sch sn (by have := HO11.out.len.1; dsimp only; omega)
    dsimp only at hsc
    have hgd := (goodB _ hsc.bands).r kn (by have := HOB11.out.1; omega)
    clear hsc
    have hmc := own_mle HOB11.out.2
    generalize hrr : ((sch.getD sn []).getD kn bd0).r = rr at *
    have i4 : ((m : Int) == 0) = false := by simp; omega
    clear hkn hg hrr
    obtain ⟨sch1, ho1, hs1, hge⟩ := inc_t HO11.out HS11.out (SameT.refl (t := ⟨sch, cts, kds, ul, ur⟩) HE2.out) rfl hslt HROW.out HG.out hcell (v := min 10000 (rr + by_)) (by omega) hgd.1
    have HO12 := Lib.hid ho1
    have HSM1 := Lib.hid hs1
    have HGE := Lib.hid hge
    have HU12 := Lib.hid (HU11.out.setO (HU11.out.differ HG.out (by decide)) (kn * 3 + 1) (.int .i64 (min 10000 (rr + by_))))
    have HT12 := Lib.hid (HT11.out.setO (HT11.out.differ HG.out (by decide)) (kn * 3 + 1) (.int .i64 (min 10000 (rr + by_))))
    have HC12 := Lib.hid (HC11.out.setO (HC11.out.differ HG.out (by decide)) (kn * 3 + 1) (.int .i64 (min 10000 (rr + by_))))
    have HB12 : Hid (Below w.heap.size w (wd.setCell ⟨g, kn * 3 + 1, none⟩ (.int .i64 (min 10000 (rr + by_))))) := bS HB11.out hgb _
    have KWU : Hid (Calls Tryz.prog 11 #[.agg #[.slice (some ⟨g0, 0, none⟩) us vs, .slice Uc uc vc, .slice Uk uk vk, .int .i64 ul, .int .i64 ur]] (wd.setCell ⟨g, kn * 3 + 1, none⟩ (.int .i64 (min 10000 (rr + by_)))) (KwR ⟨sch1, cts, kds, ul, ur⟩ (wd.setCell ⟨g, kn * 3 + 1, none⟩ (.int .i64 (min 10000 (rr + by_)))))) := by
      have v := ho1.view
      exact kworst_c ⟨sch1, cts, kds, ul, ur⟩ (some ⟨g0, 0, none⟩) Uc Uk us vs uc vc uk vk ul ur _ v.s v.c v.cc v.k v.ck rfl rfl
    obtain ⟨p0, p1, p2, p3, p4⟩ := HU12.out.all5
    obtain ⟨q0, q1', q2', q3', q4'⟩ := HU11.out.all5
    clear ho1 hs1 hge
    go_wp2_with fail
    refine KWU.out.mono ?_
    rintro e w13 ⟨⟨_, s2, a2, V2, n2, c2, rfl⟩ | ⟨hn, _⟩, hb13⟩
    case inr => exact absurd (HSM1.out.ok HE2.out) hn
    obtain ⟨z2, hz2⟩ : ∃ z, z = keptI ⟨sch1, cts, kds, ul, ur⟩ := ⟨_, rfl⟩
    rw [← hz2]
    have hzz : z2 ≤ z := by
      have := kept_more (cts := cts) (kds := kds) (lim := ul) (rnd := ur) HSM1.out.sn HGE.out
      rw [← hz2, ← HZ.out] at this
      exact this
    have v5 : decide (z < z2) = false := by simpa using hzz
    have HB14 := Lib.hid (bA (bT HB12.out hb13) (.cells #[.int .i64 s2, .int .i64 a2, .slice V2 n2 c2, .int .i64 z2] 39))
    have HT14 : Hid (TI w w4.heap.size sch cts kds (some ⟨g0, 0, none⟩) Uc Uk us vs uc vc uk vk ul ur #[.slice As ns cs, .slice Ac nc cc, .slice Ak nk ck, .int .i64 ul, .int .i64 ur] (fun _ => True) (w13.alloc (.cells #[.int .i64 s2, .int .i64 a2, .slice V2 n2 c2, .int .i64 z2] 39))) := by
      have hb := bA hb13 (.cells #[.int .i64 s2, .int .i64 a2, .slice V2 n2 c2, .int .i64 z2] 39)
      exact ⟨⟨sch1, cts, HO12.out.below hb, HSM1.out, fun j hj k hk => Int.le_refl _, trivial⟩, HU12.out.t hb, HT12.out.t hb, HB14.out⟩
    have x3 := (((HC12.out.t hb13).alloc (.cells #[.int .i64 s2, .int .i64 a2, .slice V2 n2 c2, .int .i64 z2] 39))).cell 3
    have y3 := (Blk.mk w13 39 #[.int .i64 s2, .int .i64 a2, .slice V2 n2 c2, .int .i64 z2]).cell 3
    have HCE : Hid ((w13.alloc (.cells #[.int .i64 s2, .int .i64 a2, .slice V2 n2 c2, .int .i64 z2] 39)).cell? ⟨g0, sn, none⟩ = some (.slice (some ⟨g, 0, none⟩) m c)) := by
      have hk := (HBK.out.setO (HBK.out.differ HG.out (by decide)) (kn * 3 + 1) (.int .i64 (min 10000 (rr + by_)))).t (bA hb13 (.cells #[.int .i64 s2, .int .i64 a2, .slice V2 n2 c2, .int .i64 z2] 39))
      unfold Hid
      rw [hk.cell, ← HBK.out.cell]
      exact HROW.out
    clear hb13 KWU p0 p1 p2 p3 p4 q0 q1' q2' q3' q4' hz2 i4 hcell hfz HG HGE HO12 HSM1 HU12 HT12 HC12 HB12 HBK HROW HOB11 HO11 HS11 HU11 HT11 HC11
    go_wp2_with fail
    clear x3 y3
    go_loopw [133] (fun ci wr => ∃ j : Nat, j ≤ m ∧ ci = .int .i64 j ∧ Hid (TI w w4.heap.size sch cts kds (some ⟨g0, 0, none⟩) Uc Uk us vs uc vc uk vk ul ur #[.slice As ns cs, .slice Ac nc cc, .slice Ak nk ck, .int .i64 ul, .int .i64 ur] (fun _ => True) wr) ∧ Hid (wr.cell? ⟨g0, sn, none⟩ = some (.slice (some ⟨g, 0, none⟩) m c))) (fun ci _ => m - (intOf ci).toNat)
    case atStart => exact ⟨0, Nat.zero_le _, rfl, HT14, HCE⟩
    case round =>
      clear HT14 HCE
      obtain ⟨j, hj', rfl, HTr, HCr⟩ := hrel
      by_cases hj : j < m
      case pos =>
        obtain ⟨g', r', hA', hc', hf', hr', hst⟩ := HTr.out.stepS rfl hslt HCr.out hj
        injection hA' with hA'; injection hA' with hA'
        subst hA'
        have HN := hst (r' / 2) (by omega) (by omega) (fun _ => True) (fun _ _ _ _ _ _ => trivial)
        have HN1 := Lib.hid HN.1
        have HN2 := Lib.hid HN.2
        clear hst HN
        go_wp2_with fail
        go_roundw
        case rel => exact ⟨j + 1, by omega, by go_num, HN1, HN2⟩
        case measure => simp [intOf]; omega
      obtain rfl : m = j := by omega
      obtain ⟨p0, p1, p2, p3, p4⟩ := HTr.out.k9.all5
      clear hj hj'
      go_wp2_with fail
      clear p0 p1 p2 p3 p4
      have hucb : uc ≤ 1000 := by have := (tb_of HE2.out).2.2.1; have := HTr.out.lens.2; dsimp only at *; omega
      go_loopw [148, 158, 21, 22] (fun ci _ _ _ wr => ∃ j : Nat, j ≤ uc ∧ ci = .int .i64 j ∧ Hid (TI w w4.heap.size sch cts kds (some ⟨g0, 0, none⟩) Uc Uk us vs uc vc uk vk ul ur #[.slice As ns cs, .slice Ac nc cc, .slice Ak nk ck, .int .i64 ul, .int .i64 ur] (fun _ => True) wr)) (fun ci _ _ _ _ => uc - (intOf ci).toNat)
      case atStart => exact ⟨0, Nat.zero_le _, rfl, HTr⟩
      case round =>
        clear HTr HCr
        obtain ⟨j, hj', rfl, HTr⟩ := hrel
        obtain ⟨wo, rfl⟩ : ∃ wo : World, wo = wr := ⟨_, rfl⟩
        by_cases hj : j < uc
        case pos =>
          obtain ⟨gc, A, mc, cc', hA, hvc, _, hce, hmc', hm9⟩ := HTr.out.rowC hj
          obtain ⟨p0, p1, p2, p3, p4⟩ := HTr.out.k9.all5
          subst hA
          have HCE := Lib.hid hce
          go_wp2_with fail
          clear p0 p1 p2 p3 p4 hce
          go_loopw [158, 22] (fun ci _ wr => ∃ q : Nat, q ≤ mc ∧ ci = .int .i64 q ∧ Hid (TI w w4.heap.size sch cts kds (some ⟨g0, 0, none⟩) (some ⟨gc, 0, none⟩) Uk us vs uc vc uk vk ul ur #[.slice As ns cs, .slice Ac nc cc, .slice Ak nk ck, .int .i64 ul, .int .i64 ur] (fun _ => True) wr) ∧ Hid (wr.cell? ⟨gc, j * 6 + 2, none⟩ = some (.slice A mc cc'))) (fun ci _ _ => mc - (intOf ci).toNat)
          case atStart => exact ⟨0, Nat.zero_le _, rfl, HTr, HCE⟩
          case round =>
            clear HTr HCE
            obtain ⟨q, hq', rfl, HTr, HCr⟩ := hrel
            by_cases hq : q < mc
            case pos =>
              obtain ⟨g', r', rfl, hc', hf', hr', hst⟩ := HTr.out.stepC rfl hj HCr.out hq (fun _ _ _ _ => trivial)
              have HN := hst (r' / 2) (by omega) (by omega)
              have HN1 := Lib.hid HN.1
              have HN2 := Lib.hid HN.2
              obtain ⟨p0, p1, p2, p3, p4⟩ := HTr.out.k9.all5
              have hce := HCr.out
              clear hst HN
              go_wp2_with fail
              go_roundw
              case rel => exact ⟨q + 1, by omega, by go_num, HN1, HN2⟩
              case measure => simp [intOf]; omega
            obtain rfl : mc = q := by omega
            go_wp2_with fail
            go_roundw
            case rel => exact ⟨j + 1, by omega, by go_num, HTr⟩
            case measure => simp [intOf]; omega
        obtain rfl : uc = j := by omega
        have HT5 : Hid (TI w w4.heap.size sch cts kds (some ⟨g0, 0, none⟩) Uc Uk us vs uc vc uk vk ul ur #[.slice As ns cs, .slice Ac nc cc, .slice Ak nk ck, .int .i64 ul, .int .i64 ur] (PK sch 0 0) wo) := HTr.out.imp (fun s _ _ _ => ⟨fun i hi => absurd hi (by omega), fun q hq => absurd hq (by omega)⟩)
        obtain ⟨p0, p1, p2, p3, p4⟩ := HT5.out.k9.all5
        clear hj hj' HTr
        go_wp2_with fail
        clear p0 p1 p2 p3 p4
        go_loopw [179, 186, 23, 24, 25] (fun ci _ _ _ _ wr => ∃ j : Nat, j ≤ us ∧ ci = .int .i64 j ∧ Hid (TI w w4.heap.size sch cts kds (some ⟨g0, 0, none⟩) Uc Uk us vs uc vc uk vk ul ur #[.slice As ns cs, .slice Ac nc cc, .slice Ak nk ck, .int .i64 ul, .int .i64 ur] (PK sch j 0) wr)) (fun ci _ _ _ _ _ => us - (intOf ci).toNat)
        case atStart => exact ⟨0, Nat.zero_le _, rfl, HT5⟩
        case round =>
          clear HT5
          obtain ⟨j, hj', rfl, HTr⟩ := hrel
          obtain ⟨wo, rfl⟩ : ∃ wo : World, wo = wr := ⟨_, rfl⟩
          by_cases hj : j < us
          case pos =>
            obtain ⟨g0', A, ms, cs', hA, _, _, hce, hms, hmcs, hm9⟩ := HTr.out.rowS hj
            injection hA with hA; injection hA with hA
            subst hA
            have HCE := Lib.hid hce
            have HMS := Lib.hid hms
            clear hms
            go_wp2_with fail
            clear hce
            go_loopw [186, 25] (fun ci _ wr => ∃ q : Nat, q ≤ ms ∧ ci = .int .i64 q ∧ Hid (TI w w4.heap.size sch cts kds (some ⟨g0, 0, none⟩) Uc Uk us vs uc vc uk vk ul ur #[.slice As ns cs, .slice Ac nc cc, .slice Ak nk ck, .int .i64 ul, .int .i64 ur] (PK sch j q) wr) ∧ Hid (wr.cell? ⟨g0, j, none⟩ = some (.slice A ms cs'))) (fun ci _ _ => ms - (intOf ci).toNat)
            case atStart => exact ⟨0, Nat.zero_le _, rfl, HTr, HCE⟩
            case round =>
              clear HTr HCE
              obtain ⟨q, hq', rfl, HTr, HCr⟩ := hrel
              by_cases hq : q < ms
              case pos =>
                obtain ⟨g', r', rfl, hc', hf', hr', hst⟩ := HTr.out.stepS rfl hj HCr.out hq
                obtain ⟨b, off, hAs, hlt, hat⟩ := (HH.out.s.below HTr.out.b).2.2 (by have := HH.out.s.1; have := HTr.out.lens.1; omega)
                have hjn : j < ns := by have := HH.out.s.1; have := HTr.out.lens.1; omega
                obtain ⟨A2, n2', c2', hc2, hl2⟩ := hat j hjn
                rw [Nat.mul_one] at hc2
                have hqn : q < n2' := by have := hl2.1; have := HMS.out; omega
                obtain ⟨b2, off2, hA2, hlt2, hat2⟩ := hl2.2.2 (by omega)
                obtain ⟨_, hrt, _⟩ := hat2 q (by have := hl2.1; omega)
                subst hAs hA2
                have hq9 : q < (sch.getD j []).length := by have := hl2.1; omega
                have k0 := HTr.out.k3.cell 0
                obtain ⟨rt, hrt0⟩ : ∃ rt, rt = ((sch.getD j []).getD q bd0).r := ⟨_, rfl⟩
                rw [← hrt0] at hrt
                have hrtb : 0 ≤ rt := by
                  rw [hrt0]
                  have hsc := (tb_of HE2.out).1.sch j (by have := HTr.out.lens.1; dsimp only; omega)
                  exact ((goodB _ hsc.bands).r q hq9).1
                have HN := hst (min r' rt) (by omega) (by omega) (PK sch j (q + 1)) (fun s s' hle hsb hv hp => hp.step hj HTr.out.lens.1 hq9 hle hsb hv (by rw [← hrt0]; omega))
                have HN1 := Lib.hid HN.1
                have HN2 := Lib.hid HN.2
                have hcs3 := HH.out.cs
                clear hst HN hat hat2 hl2 hrt0
                go_wp2_with fail
                go_still_tail 19, (by kernel_rfl)
                go_wp2_with fail
                go_roundw
                case rel => exact ⟨q + 1, by omega, by go_num, HN1.out.below (b0 _).drew, HN2.out⟩
                case measure => simp [intOf]; omega
              obtain rfl : ms = q := by omega
              have HN : Hid (TI w w4.heap.size sch cts kds (some ⟨g0, 0, none⟩) Uc Uk us vs uc vc uk vk ul ur #[.slice As ns cs, .slice Ac nc cc, .slice Ak nk ck, .int .i64 ul, .int .i64 ur] (PK sch (j + 1) 0) wr) := HTr.out.imp (fun s _ _ h => by rw [HMS.out] at h; exact h.next)
              go_wp2_with fail
              go_roundw
              case rel => exact ⟨j + 1, by omega, by go_num, HN⟩
              case measure => simp [intOf]; omega
          obtain rfl : us = j := by omega
          have KT2 : Hid (∀ W, Below w.heap.size w W → Calls Tryz.prog 10 #[.agg #[.slice As ns cs, .slice Ac nc cc, .slice Ak nk ck, .int .i64 ul, .int .i64 ur]] W fun e w' => e = .returned (.int .i64 re) ∧ Below W.heap.size W w') := fun W hW => by
            have h := HH.out
            exact kcheck_c ⟨sch, cts, kds, ul, ur⟩ As Ac Ak ns cs nc cc nk ck ul ur W (h.s.below hW) (h.c.below hW) h.cc (h.k.below hW) h.ck rfl rfl re HRE
          obtain ⟨p0, p1, p2, p3, p4⟩ := HTr.out.k3.all5
          clear hj hj'
          by_cases hr0 : re = 0
          case neg =>
            have v0 : (re != 0) = true := by simpa using hr0
            clear hr0
            go_wp2_with fail
            refine (KT2.out _ HTr.out.b).mono ?_
            rintro e w20 ⟨rfl, hb20⟩
            have HB20 := Lib.hid (bT HTr.out.b hb20)
            go_wp2_with fail
            go_ret
            exact ⟨rfl, HB20.out⟩
          subst hr0
          go_wp2_with fail
          refine (KT2.out _ HTr.out.b).mono ?_
          rintro e w20 ⟨rfl, hb20⟩
          have HT20 := Lib.hid (HTr.out.below hb20)
          obtain ⟨q0, q1', q2', q3', q4'⟩ := HT20.out.k9.all5
          have KU2 : Hid (Calls Tryz.prog 10 #[.agg #[.slice (some ⟨g0, 0, none⟩) us vs, .slice Uc uc vc, .slice Uk uk vk, .int .i64 ul, .int .i64 ur]] w20 fun e w' => e = .returned (.int .i64 0) ∧ Below w20.heap.size w20 w') := by
            obtain ⟨sch2, cts2, o9, s9, c9, p9⟩ := HT20.out.ex
            have v := o9.view
            exact kcheck_c ⟨sch2, cts2, kds, ul, ur⟩ (some ⟨g0, 0, none⟩) Uc Uk us vs uc vc uk vk ul ur w20 v.s v.c v.cc v.k v.ck rfl rfl 0 (by
              unfold Hid
              exact (keep_stays HE2.out s9 (fun i hi => p9.1 i (by have := HT20.out.lens.1; omega)) c9 HRE.out.symm).symm)
          have HB20 := Lib.hid HT20.out.b
          clear hb20 p0 p1 p2 p3 p4
          go_wp2_with fail
          refine KU2.out.mono ?_
          rintro e w21 ⟨rfl, hb21⟩
          have HB21 := Lib.hid (bT HB20.out hb21)
          go_wp2_with fail
          go_ret
          exact ⟨rfl, HB21.out⟩
--%%
end Go.Proofs.YtcngmajkkhipoaaGreatDoor
