/-
  Layer 13's law TaxRefuses: its walk. No conditions.
-/
import Derived.Test.YtlfeppbhicmeoaaLaw13d
namespace Go.Proofs.Ytlfeppbhicmeoaa
set_option linter.unusedVariables false
open Go.RowKit
def ExAny (w : World) (e : Ending) (w' : World) : Prop := (∃ x r : Int, e = .returned (.tuple #[.int .i64 x, .int .i64 r])) ∧ Below w.heap.size w w'
theorem exE_part {sch : List (List Bd)} {c : Cd} (h : fitE sch c = 0) (tx n d : Int) (hp : partB n d = false) : exE sch c tx n d = 1 := by
  unfold exE
  rw [if_neg (by simpa using h)]
  unfold chargeE
  rw [if_neg (by simpa using (fit_ok h).1), if_pos hp]
theorem exE_unfit {sch : List (List Bd)} {c : Cd} (h : fitE sch c ≠ 0) (tx n d : Int) : exE sch c tx n d = fitE sch c := if_pos h
theorem cornE_unfit {sch : List (List Bd)} {c : Cd} (h : fitE sch c ≠ 0) (n d : Int) : cornE sch c n d = fitE sch c := if_pos h
theorem cornE_part {sch : List (List Bd)} {c : Cd} (h : fitE sch c = 0) (n d : Int) (hp : partB n d = false) : cornE sch c n d = 1 := by
  unfold cornE
  rw [if_neg (by simpa using h), if_pos hp]
theorem cornE_fit {sch : List (List Bd)} {c : Cd} (h : fitE sch c = 0) (n d : Int) (hp : partB n d = true) : cornE sch c n d = 0 := by
  unfold cornE
  rw [if_neg (by simpa using h), if_neg (by rw [hp]; decide)]
--%%
theorem texact_any (sch : List (List Bd)) (As Ac Ak : Option Addr) (ns cs nc cc nk ck : Nat) (lim rnd : Int) (s k a f : Int) (al : Bool) (tx n d : Int) (w : World) (hs : ScSl w As ns sch) (hok : ∀ k, k < ns → bandsErr (sch.getD k []) = 0) :
    Calls Try.prog 20 #[.agg #[.slice As ns cs, .slice Ac nc cc, .slice Ak nk ck, .int .i64 lim, .int .i64 rnd], .agg #[.int .i64 s, .int .i64 k, .int .i64 a, .int .i64 f, .bool al], .int .i64 tx, .int .i64 n, .int .i64 d] w (ExAny w) := by
  by_cases h : exE sch ⟨s, k, a, f, al⟩ tx n d = 0
  · exact (texact_t sch As Ac Ak ns cs nc cc nk ck lim rnd s k a f al tx n d w hs hok h).mono fun e w' ⟨he, hb⟩ => ⟨⟨_, _, he⟩, hb⟩
  · exact (texact_e sch As Ac Ak ns cs nc cc nk ck lim rnd s k a f al tx n d w hs _ rfl h).mono fun e w' ⟨he, hb⟩ => ⟨⟨_, _, he⟩, hb⟩
--%%
set_option maxRecDepth 100000 in
set_option maxHeartbeats 1600000 in
theorem taxRefuses_walk (sch : List (List Bd)) (cts : List Ct) (kds : List Kd) (As Ac Ak : Option Addr) (ns cs nc cc nk ck : Nat) (lim rnd : Int) (s k a f : Int) (al : Bool) (tx n d : Int) (w : World) (hs : ScSl w As ns sch) (hc : CtSl w Ac nc cts) (hcc : nc ≤ cc) (hk : KdSl w Ak nk kds) (hck : nk ≤ ck) :
    Calls Try.prog 5 #[.agg #[.slice As ns cs, .slice Ac nc cc, .slice Ak nk ck, .int .i64 lim, .int .i64 rnd], .agg #[.int .i64 s, .int .i64 k, .int .i64 a, .int .i64 f, .bool al], .agg #[.int .i64 tx, .int .i64 n, .int .i64 d]] w fun e w' => e = .returned (.bool true) ∧ Below w.heap.size w w' := by
  have hb0 := bA (bA (below1 w (.cells #[.slice As ns cs, .slice Ac nc cc, .slice Ak nk ck, .int .i64 lim, .int .i64 rnd] 26)) (.cells #[.int .i64 s, .int .i64 k, .int .i64 a, .int .i64 f, .bool al] 40)) (.cells #[.int .i64 tx, .int .i64 n, .int .i64 d] 56)
  have z := ((Blk.mk w 26 #[.slice As ns cs, .slice Ac nc cc, .slice Ak nk ck, .int .i64 lim, .int .i64 rnd]).alloc (.cells #[.int .i64 s, .int .i64 k, .int .i64 a, .int .i64 f, .bool al] 40)).alloc (.cells #[.int .i64 tx, .int .i64 n, .int .i64 d] 56)
  have y := (Blk.mk (w.alloc (.cells #[.slice As ns cs, .slice Ac nc cc, .slice Ak nk ck, .int .i64 lim, .int .i64 rnd] 26)) 40 #[.int .i64 s, .int .i64 k, .int .i64 a, .int .i64 f, .bool al]).alloc (.cells #[.int .i64 tx, .int .i64 n, .int .i64 d] 56)
  have x := Blk.mk ((w.alloc (.cells #[.slice As ns cs, .slice Ac nc cc, .slice Ak nk ck, .int .i64 lim, .int .i64 rnd] 26)).alloc (.cells #[.int .i64 s, .int .i64 k, .int .i64 a, .int .i64 f, .bool al] 40)) 56 #[.int .i64 tx, .int .i64 n, .int .i64 d]
  simp only [World.size_alloc] at y x
  have HS := Lib.hid hs
  have HC := Lib.hid hc
  have HK := Lib.hid hk
  clear hs hc hk
  by_cases h1 : ns ≤ 20
  case neg =>
    have t1 : decide ((20 : Int) < (ns : Int)) = true := by simp; omega
    go_enter Try.func5, Try.ntmps5
    go_wp2_with fail
    refine (dues_c _).mono ?_
    rintro e w1 ⟨rfl, hb1⟩
    have hb2 := bT hb0 hb1
    have s0 := (z.t hb1).cell 0
    go_wp2_with fail
    go_ret
    exact ⟨rfl, hb2⟩
  have t1 : decide ((20 : Int) < (ns : Int)) = false := by simp; omega
  go_enter Try.func5, Try.ntmps5
  go_wp2_with fail
  refine (dues_c _).mono ?_
  rintro e w1 ⟨rfl, hb1⟩
  have hb2 := bT hb0 hb1
  have z1 := z.t hb1
  have y1 := y.t hb1
  have x1 := x.t hb1
  obtain ⟨p0, p1, p2, p3, p4⟩ := z1.all5
  go_wp2_with fail
  refine (tcheck_c sch cts kds As Ac Ak ns cs nc cc nk ck lim rnd _ (HS.out.below hb2) (HC.out.below hb2) hcc (HK.out.below hb2) hck).mono ?_
  rintro e w2 ⟨rc, ⟨rfl, hrc⟩, hb3⟩
  have HR := Lib.hid hrc
  clear hrc p0 p1 p2 p3 p4
  have hb4 := bT hb2 hb3
  have z2 := z1.t hb3
  have y2 := y1.t hb3
  have x2 := x1.t hb3
  by_cases hz : rc = 0
  case neg =>
    have u : (rc != 0) = true := by simpa using hz
    go_wp2_with fail
    go_ret
    exact ⟨rfl, hb4⟩
  subst hz
  have HOK := Lib.hid (HR.out rfl)
  have hok : ∀ k, k < ns → bandsErr (sch.getD k []) = 0 := fun k hk => (HOK.out.sch k (by rw [← HS.out.1]; exact hk)).bands
  obtain ⟨r, hr⟩ : ∃ r, r = fitE sch ⟨s, k, a, f, al⟩ := ⟨_, rfl⟩
  have KF := Lib.hid (fun W h => tfits_c sch As Ac Ak ns cs nc cc nk ck lim rnd s k a f al W h r hr)
  by_cases hr0 : r = 0
  case neg =>
    have hfn : fitE sch ⟨s, k, a, f, al⟩ ≠ 0 := by rw [← hr]; exact hr0
    have KX := Lib.hid (fun W h => texact_e sch As Ac Ak ns cs nc cc nk ck lim rnd s k a f al tx n d W h r (hr.trans (exE_unfit hfn tx n d).symm) hr0)
    have KD := Lib.hid (fun W h => tcorn_e sch As Ac Ak ns cs nc cc nk ck lim rnd s k a f al n d W h r (hr.trans (cornE_unfit hfn n d).symm) hr0)
    have u : (r != 0) = true := by simpa using hr0
    clear hr hfn hok
    obtain ⟨p0, p1, p2, p3, p4⟩ := z2.all5
    obtain ⟨q0, q1, q2, q3, q4⟩ := y2.all5
    obtain ⟨r0, r1, r2⟩ := (⟨x2.cell 0, x2.cell 1, x2.cell 2⟩ : _ ∧ _ ∧ _)
    go_wp2_with fail
    refine (KX.out _ (HS.out.below hb4)).mono ?_
    rintro e w3 ⟨rfl, hb5⟩
    clear p0 p1 p2 p3 p4 q0 q1 q2 q3 q4 r0 r1 r2
    have z3 := z2.t hb5
    have y3 := y2.t hb5
    have x3 := x2.t hb5
    have hb6 := bT hb4 hb5
    obtain ⟨p0, p1, p2, p3, p4⟩ := z3.all5
    obtain ⟨q0, q1, q2, q3, q4⟩ := y3.all5
    obtain ⟨r0, r1, r2⟩ := (⟨x3.cell 0, x3.cell 1, x3.cell 2⟩ : _ ∧ _ ∧ _)
    go_wp2_with fail
    refine (KD.out _ (HS.out.below hb6)).mono ?_
    rintro e w4 ⟨rfl, hb7⟩
    clear p0 p1 p2 p3 p4 q0 q1 q2 q3 q4 r0 r1 r2
    have z4 := z3.t hb7
    have y4 := y3.t hb7
    have x4 := x3.t hb7
    have hb8 := bT hb6 hb7
    obtain ⟨p0, p1, p2, p3, p4⟩ := z4.all5
    obtain ⟨q0, q1, q2, q3, q4⟩ := y4.all5
    go_wp2_with fail
    refine (KF.out _ (HS.out.below hb8)).mono ?_
    rintro e w5 ⟨rfl, hb9⟩
    have hb10 := bT hb8 hb9
    go_wp2_with fail
    go_ret
    exact ⟨rfl, hb10⟩
  subst hr0
  by_cases hp : partB n d = true
  · have KX := Lib.hid (fun W h => texact_any sch As Ac Ak ns cs nc cc nk ck lim rnd s k a f al tx n d W h hok)
    have KD := Lib.hid (fun W h => tcorn_t sch As Ac Ak ns cs nc cc nk ck lim rnd s k a f al n d W h hok (cornE_fit hr.symm n d hp))
    obtain ⟨g1, g2, g3, g4⟩ := partB_iff.1 hp
    clear hr hp hok
    have v1 : decide (n < 0) = false := by simpa using g1
    have v2 : decide (d < 1) = false := by simp; omega
    have v3 : decide (d < n) = false := by simpa using g3
    have v4 : decide (1048576 < d) = false := by simpa using g4
    obtain ⟨p0, p1, p2, p3, p4⟩ := z2.all5
    obtain ⟨q0, q1, q2, q3, q4⟩ := y2.all5
    obtain ⟨r0, r1, r2⟩ := (⟨x2.cell 0, x2.cell 1, x2.cell 2⟩ : _ ∧ _ ∧ _)
    go_wp2_with fail
    refine (KX.out _ (HS.out.below hb4)).mono ?_
    rintro e w3 ⟨⟨ex, er, rfl⟩, hb5⟩
    clear p0 p1 p2 p3 p4 q0 q1 q2 q3 q4 r0 r1 r2
    have z3 := z2.t hb5
    have y3 := y2.t hb5
    have x3 := x2.t hb5
    have hb6 := bT hb4 hb5
    obtain ⟨p0, p1, p2, p3, p4⟩ := z3.all5
    obtain ⟨q0, q1, q2, q3, q4⟩ := y3.all5
    obtain ⟨r0, r1, r2⟩ := (⟨x3.cell 0, x3.cell 1, x3.cell 2⟩ : _ ∧ _ ∧ _)
    go_wp2_with fail
    refine (KD.out _ (HS.out.below hb6)).mono ?_
    rintro e w4 ⟨⟨cv, cm, rfl, hcv⟩, hb7⟩
    clear p0 p1 p2 p3 p4 q0 q1 q2 q3 q4 r0 r1 r2 hcv
    have z4 := z3.t hb7
    have y4 := y3.t hb7
    have x4 := x3.t hb7
    have hb8 := bT hb6 hb7
    obtain ⟨p0, p1, p2, p3, p4⟩ := z4.all5
    obtain ⟨q0, q1, q2, q3, q4⟩ := y4.all5
    go_wp2_with fail
    refine (KF.out _ (HS.out.below hb8)).mono ?_
    rintro e w5 ⟨rfl, hb9⟩
    have hb10 := bT hb8 hb9
    clear p0 p1 p2 p3 p4 q0 q1 q2 q3 q4
    have x5 := x4.t hb9
    obtain ⟨r0, r1, r2⟩ := (⟨x5.cell 0, x5.cell 1, x5.cell 2⟩ : _ ∧ _ ∧ _)
    go_wp2_with fail
    go_ret
    exact ⟨rfl, hb10⟩
  · have hpf : partB n d = false := by simpa using hp
    have KX := Lib.hid (fun W h => texact_e sch As Ac Ak ns cs nc cc nk ck lim rnd s k a f al tx n d W h 1 (exE_part hr.symm tx n d hpf).symm (by decide))
    have KD := Lib.hid (fun W h => tcorn_e sch As Ac Ak ns cs nc cc nk ck lim rnd s k a f al n d W h 1 (cornE_part hr.symm n d hpf).symm (by decide))
    have HP : Hid (¬ (0 ≤ n ∧ 1 ≤ d ∧ n ≤ d ∧ d ≤ 1048576)) := fun h => hp (partB_iff.2 h)
    clear hr hp hok hpf
    obtain ⟨p0, p1, p2, p3, p4⟩ := z2.all5
    obtain ⟨q0, q1, q2, q3, q4⟩ := y2.all5
    obtain ⟨r0, r1, r2⟩ := (⟨x2.cell 0, x2.cell 1, x2.cell 2⟩ : _ ∧ _ ∧ _)
    go_wp2_with fail
    refine (KX.out _ (HS.out.below hb4)).mono ?_
    rintro e w3 ⟨rfl, hb5⟩
    clear p0 p1 p2 p3 p4 q0 q1 q2 q3 q4 r0 r1 r2
    have z3 := z2.t hb5
    have y3 := y2.t hb5
    have x3 := x2.t hb5
    have hb6 := bT hb4 hb5
    obtain ⟨p0, p1, p2, p3, p4⟩ := z3.all5
    obtain ⟨q0, q1, q2, q3, q4⟩ := y3.all5
    obtain ⟨r0, r1, r2⟩ := (⟨x3.cell 0, x3.cell 1, x3.cell 2⟩ : _ ∧ _ ∧ _)
    go_wp2_with fail
    refine (KD.out _ (HS.out.below hb6)).mono ?_
    rintro e w4 ⟨rfl, hb7⟩
    clear p0 p1 p2 p3 p4 q0 q1 q2 q3 q4 r0 r1 r2
    have z4 := z3.t hb7
    have y4 := y3.t hb7
    have x4 := x3.t hb7
    have hb8 := bT hb6 hb7
    obtain ⟨p0, p1, p2, p3, p4⟩ := z4.all5
    obtain ⟨q0, q1, q2, q3, q4⟩ := y4.all5
    go_wp2_with fail
    refine (KF.out _ (HS.out.below hb8)).mono ?_
    rintro e w5 ⟨rfl, hb9⟩
    have hb10 := bT hb8 hb9
    clear p0 p1 p2 p3 p4 q0 q1 q2 q3 q4
    have x5 := x4.t hb9
    obtain ⟨r0, r1, r2⟩ := (⟨x5.cell 0, x5.cell 1, x5.cell 2⟩ : _ ∧ _ ∧ _)
    by_cases g1 : n < 0
    · have v1 : decide (n < 0) = true := by simpa using g1
      go_wp2_with fail
      go_ret
      exact ⟨rfl, hb10⟩
    have v1 : decide (n < 0) = false := by simpa using g1
    by_cases g2 : d < 1
    · have v2 : decide (d < 1) = true := by simpa using g2
      go_wp2_with fail
      go_ret
      exact ⟨rfl, hb10⟩
    have v2 : decide (d < 1) = false := by simpa using g2
    by_cases g3 : d < n
    · have v3 : decide (d < n) = true := by simpa using g3
      go_wp2_with fail
      go_ret
      exact ⟨rfl, hb10⟩
    have v3 : decide (d < n) = false := by simpa using g3
    by_cases g4 : 1048576 < d
    · have v4 : decide (1048576 < d) = true := by simpa using g4
      go_wp2_with fail
      go_ret
      exact ⟨rfl, hb10⟩
    exact absurd (⟨by omega, by omega, by omega, by omega⟩ : 0 ≤ n ∧ 1 ≤ d ∧ n ≤ d ∧ d ≤ 1048576) HP.out
--%%
end Go.Proofs.Ytlfeppbhicmeoaa
