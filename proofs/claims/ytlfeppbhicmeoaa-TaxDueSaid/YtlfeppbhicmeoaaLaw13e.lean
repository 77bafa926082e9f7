/-
  Layer 13's law TaxDue: its walk. No conditions.
-/
import Derived.Test.YtlfeppbhicmeoaaLaw13d
namespace Go.Proofs.Ytlfeppbhicmeoaa
set_option linter.unusedVariables false
open Go.RowKit
theorem exE_fit {sch : List (List Bd)} {c : Cd} (h : fitE sch c = 0) (tx n d : Int) : exE sch c tx n d = chargeE c tx n d := by
  unfold exE
  rw [if_neg (by simpa using h)]
--%%
set_option maxRecDepth 100000 in
set_option maxHeartbeats 1600000 in
theorem taxDue_walk (sch : List (List Bd)) (cts : List Ct) (kds : List Kd) (As Ac Ak : Option Addr) (ns cs nc cc nk ck : Nat) (lim rnd : Int) (s k a f : Int) (al : Bool) (tx n d : Int) (w : World) (hs : ScSl w As ns sch) (hc : CtSl w Ac nc cts) (hcc : nc ≤ cc) (hk : KdSl w Ak nk kds) (hck : nk ≤ ck) :
    Calls Try.prog 4 #[.agg #[.slice As ns cs, .slice Ac nc cc, .slice Ak nk ck, .int .i64 lim, .int .i64 rnd], .agg #[.int .i64 s, .int .i64 k, .int .i64 a, .int .i64 f, .bool al], .agg #[.int .i64 tx, .int .i64 n, .int .i64 d]] w fun e w' => e = .returned (.bool true) ∧ Below w.heap.size w w' := by
  have hb0 := bA (bA (below1 w (.cells #[.slice As ns cs, .slice Ac nc cc, .slice Ak nk ck, .int .i64 lim, .int .i64 rnd] 26)) (.cells #[.int .i64 s, .int .i64 k, .int .i64 a, .int .i64 f, .bool al] 40)) (.cells #[.int .i64 tx, .int .i64 n, .int .i64 d] 56)
  have z := ((Blk.mk w 26 #[.slice As ns cs, .slice Ac nc cc, .slice Ak nk ck, .int .i64 lim, .int .i64 rnd]).alloc (.cells #[.int .i64 s, .int .i64 k, .int .i64 a, .int .i64 f, .bool al] 40)).alloc (.cells #[.int .i64 tx, .int .i64 n, .int .i64 d] 56)
  have y := (Blk.mk (w.alloc (.cells #[.slice As ns cs, .slice Ac nc cc, .slice Ak nk ck, .int .i64 lim, .int .i64 rnd] 26)) 40 #[.int .i64 s, .int .i64 k, .int .i64 a, .int .i64 f, .bool al]).alloc (.cells #[.int .i64 tx, .int .i64 n, .int .i64 d] 56)
  have x := Blk.mk ((w.alloc (.cells #[.slice As ns cs, .slice Ac nc cc, .slice Ak nk ck, .int .i64 lim, .int .i64 rnd] 26)).alloc (.cells #[.int .i64 s, .int .i64 k, .int .i64 a, .int .i64 f, .bool al] 40)) 56 #[.int .i64 tx, .int .i64 n, .int .i64 d]
  simp only [World.size_alloc] at y x
  have HS := Lib.hid hs
  have HC := Lib.hid hc
  have HK := Lib.hid hk
  clear hs hc hk
  go_enter Try.func4, Try.ntmps4
  go_wp2_with fail
  refine (dues_c _).mono ?_
  rintro e w1 ⟨rfl, hb1⟩
  have hb2 := bT hb0 hb1
  have z1 := z.t hb1
  have y1 := y.t hb1
  have x1 := x.t hb1
  obtain ⟨p0, p1, p2, p3, p4⟩ := z1.all5
  obtain ⟨q0, q1, q2, q3, q4⟩ := y1.all5
  obtain ⟨r0, r1, r2⟩ := (⟨x1.cell 0, x1.cell 1, x1.cell 2⟩ : _ ∧ _ ∧ _)
  go_wp2_with fail
  refine (fits13_c sch cts kds As Ac Ak ns cs nc cc nk ck lim rnd s k a f al n d _ (HS.out.below hb2) (HC.out.below hb2) hcc (HK.out.below hb2) hck).mono ?_
  rintro e w2 ⟨bb, ⟨rfl, hy⟩, hb3⟩
  have hb4 := bT hb2 hb3
  cases bb
  · clear hy
    go_wp2_with fail
    go_ret
    exact ⟨rfl, hb4⟩
  have HF := Lib.hid (hy rfl)
  clear hy p0 p1 p2 p3 p4 q0 q1 q2 q3 q4 r0 r1 r2
  have z2 := z1.t hb3
  have y2 := y1.t hb3
  have x2 := x1.t hb3
  by_cases h0 : exE sch ⟨s, k, a, f, al⟩ tx n d = 0
  case neg =>
    obtain ⟨r, hr⟩ : ∃ r, r = exE sch ⟨s, k, a, f, al⟩ tx n d := ⟨_, rfl⟩
    have hr2 : r = chargeE ⟨s, k, a, f, al⟩ tx n d := hr.trans (exE_fit HF.out.fit tx n d)
    have hr0 : r ≠ 0 := by rw [hr]; exact h0
    have KX := Lib.hid (fun W h => texact_e sch As Ac Ak ns cs nc cc nk ck lim rnd s k a f al tx n d W h r hr hr0)
    have KD := Lib.hid (fun W h => tdue_e sch As Ac Ak ns cs nc cc nk ck lim rnd s k a f al tx n d W h r hr hr0)
    have KG := Lib.hid (charge_e s k a f al tx n d · r hr2 hr0)
    have u : (r != 0) = true := by simpa using hr0
    clear hr hr2 h0
    obtain ⟨p0, p1, p2, p3, p4⟩ := z2.all5
    obtain ⟨q0, q1, q2, q3, q4⟩ := y2.all5
    obtain ⟨r0, r1, r2⟩ := (⟨x2.cell 0, x2.cell 1, x2.cell 2⟩ : _ ∧ _ ∧ _)
    go_wp2_with fail
    refine (KX.out _ (HS.out.below hb4)).mono ?_
    rintro e w3 ⟨rfl, hb5⟩
    clear p0 p1 p2 p3 p4 q0 q1 q2 q3 q4 r0 r1 r2
    have z3 := z2.t hb5
    have y3 := y2.t hb5
    have x3 := x2.t hb5
    have hb6 := bT hb4 hb5
    obtain ⟨p0, p1, p2, p3, p4⟩ := z3.all5
    obtain ⟨q0, q1, q2, q3, q4⟩ := y3.all5
    obtain ⟨r0, r1, r2⟩ := (⟨x3.cell 0, x3.cell 1, x3.cell 2⟩ : _ ∧ _ ∧ _)
    go_wp2_with fail
    refine (KD.out _ (HS.out.below hb6)).mono ?_
    rintro e w4 ⟨rfl, hb7⟩
    clear p0 p1 p2 p3 p4 q0 q1 q2 q3 q4 r0 r1 r2
    have z4 := z3.t hb7
    have y4 := y3.t hb7
    have x4 := x3.t hb7
    have hb8 := bT hb6 hb7
    obtain ⟨p0, p1, p2, p3, p4⟩ := z4.all5
    obtain ⟨q0, q1, q2, q3, q4⟩ := y4.all5
    obtain ⟨r0, r1, r2⟩ := (⟨x4.cell 0, x4.cell 1, x4.cell 2⟩ : _ ∧ _ ∧ _)
    go_wp2_with fail
    refine (KG.out _).mono ?_
    rintro e w5 ⟨rfl, hb9⟩
    have hb10 := bT hb8 hb9
    go_wp2_with fail
    go_ret
    exact ⟨rfl, hb10⟩
  have hok : ∀ k, k < ns → bandsErr (sch.getD k []) = 0 := fun k hk => (HF.out.ok.sch k (by rw [← HS.out.1]; exact hk)).bands
  have hc0 : chargeE ⟨s, k, a, f, al⟩ tx n d = 0 := (exE_fit HF.out.fit tx n d).symm.trans h0
  have KX := Lib.hid (fun W h => texact_t sch As Ac Ak ns cs nc cc nk ck lim rnd s k a f al tx n d W h hok h0)
  have KD := Lib.hid (fun W h => tdue_t sch As Ac Ak ns cs nc cc nk ck lim rnd s k a f al tx n d W h hok HF.out.ok.rnd h0)
  have KG := Lib.hid (charge_t s k a f al tx n d · hc0)
  have KR := Lib.hid (fun W h => rtexact_c sch As Ac Ak ns cs nc cc nk ck lim rnd s k a f al tx n d W h hok h0)
  have hbd := exV_bd sch ⟨s, k, a, f, al⟩ tx n d (fun k hk => hok k (by rw [HS.out.1]; exact hk)) h0
  have KO := Lib.hid (rround_c (exV sch ⟨s, k, a, f, al⟩ tx n d) rnd · (by omega) (by omega) HF.out.ok.rnd)
  generalize roundI (exV sch ⟨s, k, a, f, al⟩ tx n d) 10000 rnd = rv at *
  generalize exV sch ⟨s, k, a, f, al⟩ tx n d = ev at *
  generalize chargeV ⟨s, k, a, f, al⟩ tx n d = cv at *
  clear h0 hc0 hok hbd
  obtain ⟨p0, p1, p2, p3, p4⟩ := z2.all5
  obtain ⟨q0, q1, q2, q3, q4⟩ := y2.all5
  obtain ⟨r0, r1, r2⟩ := (⟨x2.cell 0, x2.cell 1, x2.cell 2⟩ : _ ∧ _ ∧ _)
  go_wp2_with fail
  refine (KX.out _ (HS.out.below hb4)).mono ?_
  rintro e w3 ⟨rfl, hb5⟩
  clear p0 p1 p2 p3 p4 q0 q1 q2 q3 q4 r0 r1 r2
  have z3 := z2.t hb5
  have y3 := y2.t hb5
  have x3 := x2.t hb5
  have hb6 := bT hb4 hb5
  obtain ⟨p0, p1, p2, p3, p4⟩ := z3.all5
  obtain ⟨q0, q1, q2, q3, q4⟩ := y3.all5
  obtain ⟨r0, r1, r2⟩ := (⟨x3.cell 0, x3.cell 1, x3.cell 2⟩ : _ ∧ _ ∧ _)
  go_wp2_with fail
  refine (KD.out _ (HS.out.below hb6)).mono ?_
  rintro e w4 ⟨rfl, hb7⟩
  clear p0 p1 p2 p3 p4 q0 q1 q2 q3 q4 r0 r1 r2
  have z4 := z3.t hb7
  have y4 := y3.t hb7
  have x4 := x3.t hb7
  have hb8 := bT hb6 hb7
  obtain ⟨p0, p1, p2, p3, p4⟩ := z4.all5
  obtain ⟨q0, q1, q2, q3, q4⟩ := y4.all5
  obtain ⟨r0, r1, r2⟩ := (⟨x4.cell 0, x4.cell 1, x4.cell 2⟩ : _ ∧ _ ∧ _)
  go_wp2_with fail
  refine (KG.out _).mono ?_
  rintro e w5 ⟨rfl, hb9⟩
  clear p0 p1 p2 p3 p4 q0 q1 q2 q3 q4 r0 r1 r2
  have z5 := z4.t hb9
  have y5 := y4.t hb9
  have x5 := x4.t hb9
  have hb10 := bT hb8 hb9
  obtain ⟨p0, p1, p2, p3, p4⟩ := z5.all5
  obtain ⟨q0, q1, q2, q3, q4⟩ := y5.all5
  obtain ⟨r0, r1, r2⟩ := (⟨x5.cell 0, x5.cell 1, x5.cell 2⟩ : _ ∧ _ ∧ _)
  go_wp2_with fail
  refine (KR.out _ (HS.out.below hb10)).mono ?_
  rintro e w6 ⟨rfl, hb11⟩
  have hb12 := bT hb10 hb11
  have s4 := (z5.t hb11).cell 4
  go_wp2_with fail
  refine (KO.out _).mono ?_
  rintro e w7 ⟨rfl, rfl⟩
  go_wp2_with fail
  go_ret
  exact ⟨rfl, hb12⟩
--%%
end Go.Proofs.Ytlfeppbhicmeoaa
