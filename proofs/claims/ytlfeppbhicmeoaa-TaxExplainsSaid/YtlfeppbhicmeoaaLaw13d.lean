/-
  Layer 13's laws: may a code be with a table, and by a part of the year. Conditions as named.
-/
import Derived.Test.YtlfeppbhicmeoaaLaw13c
import Derived.Test.YtlfeppbhicmeoaaTable5
namespace Go.Proofs.Ytlfeppbhicmeoaa
set_option linter.unusedVariables false
open Go.RowKit
def Yes13 (P : Prop) (w : World) (e : Ending) (w' : World) : Prop := ∃ b : Bool, (e = .returned (.bool b) ∧ (b = true → P)) ∧ Below w.heap.size w w'
structure F13 (sch : List (List Bd)) (cts : List Ct) (kds : List Kd) (lim rnd : Int) (ns : Nat) (c : Cd) (n d : Int) : Prop where
  ok : TbOK sch cts kds lim rnd
  ns : ns ≤ 20
  fit : fitE sch c = 0
  part : partB n d = true
theorem Yes13.no {P : Prop} {w w' : World} {v : Bool} (hv : v = false) (hb : Below w.heap.size w w') : Yes13 P w (.returned (.bool v)) w' := ⟨v, ⟨rfl, fun h => by rw [hv] at h; cases h⟩, hb⟩
--%%
set_option maxRecDepth 100000 in
set_option maxHeartbeats 1600000 in
theorem fits13_c (sch : List (List Bd)) (cts : List Ct) (kds : List Kd) (As Ac Ak : Option Addr) (ns cs nc cc nk ck : Nat) (lim rnd : Int) (s k a f : Int) (al : Bool) (n d : Int) (w : World) (hs : ScSl w As ns sch) (hc : CtSl w Ac nc cts) (hcc : nc ≤ cc) (hk : KdSl w Ak nk kds) (hck : nk ≤ ck) :
    Calls Try.prog 19 #[.agg #[.slice As ns cs, .slice Ac nc cc, .slice Ak nk ck, .int .i64 lim, .int .i64 rnd], .agg #[.int .i64 s, .int .i64 k, .int .i64 a, .int .i64 f, .bool al], .agg #[.int .i64 n, .int .i64 d]] w (Yes13 (F13 sch cts kds lim rnd ns ⟨s, k, a, f, al⟩ n d) w) := by
  have hb0 := bA (bA (below1 w (.cells #[.slice As ns cs, .slice Ac nc cc, .slice Ak nk ck, .int .i64 lim, .int .i64 rnd] 26)) (.cells #[.int .i64 s, .int .i64 k, .int .i64 a, .int .i64 f, .bool al] 40)) (.cells #[.int .i64 n, .int .i64 d] 59)
  have z := ((Blk.mk w 26 #[.slice As ns cs, .slice Ac nc cc, .slice Ak nk ck, .int .i64 lim, .int .i64 rnd]).alloc (.cells #[.int .i64 s, .int .i64 k, .int .i64 a, .int .i64 f, .bool al] 40)).alloc (.cells #[.int .i64 n, .int .i64 d] 59)
  have y := (Blk.mk (w.alloc (.cells #[.slice As ns cs, .slice Ac nc cc, .slice Ak nk ck, .int .i64 lim, .int .i64 rnd] 26)) 40 #[.int .i64 s, .int .i64 k, .int .i64 a, .int .i64 f, .bool al]).alloc (.cells #[.int .i64 n, .int .i64 d] 59)
  have x := Blk.mk ((w.alloc (.cells #[.slice As ns cs, .slice Ac nc cc, .slice Ak nk ck, .int .i64 lim, .int .i64 rnd] 26)).alloc (.cells #[.int .i64 s, .int .i64 k, .int .i64 a, .int .i64 f, .bool al] 40)) 59 #[.int .i64 n, .int .i64 d]
  simp only [World.size_alloc] at y x
  have KC := Lib.hid (tcheck_c sch cts kds As Ac Ak ns cs nc cc nk ck lim rnd _ (hs.below hb0) (hc.below hb0) hcc (hk.below hb0) hck)
  obtain ⟨r, hr⟩ : ∃ r, r = fitE sch ⟨s, k, a, f, al⟩ := ⟨_, rfl⟩
  have KF := Lib.hid (fun W h => tfits_c sch As Ac Ak ns cs nc cc nk ck lim rnd s k a f al W h r hr)
  have HF := Lib.hid hr
  have HS := Lib.hid hs
  clear hs hc hk hr
  by_cases h1 : ns ≤ 20
  case neg =>
    have t1 : decide ((ns : Int) ≤ 20) = false := by simp; omega
    go_enter Try.func19, Try.ntmps19
    go_wp2_with fail
    go_ret
    exact ⟨false, ⟨rfl, fun h => by cases h⟩, hb0⟩
  have t1 : decide ((ns : Int) ≤ 20) = true := by simp; omega
  by_cases h3 : nk ≤ 30
  case neg =>
    have t3 : decide ((nk : Int) ≤ 30) = false := by simp; omega
    go_enter Try.func19, Try.ntmps19
    go_wp2_with fail
    go_ret
    exact ⟨false, ⟨rfl, fun h => by cases h⟩, hb0⟩
  have t3 : decide ((nk : Int) ≤ 30) = true := by simp; omega
  by_cases h2 : nc ≤ 20
  case neg =>
    have t2 : decide ((nc : Int) ≤ 20) = false := by simp; omega
    go_enter Try.func19, Try.ntmps19
    go_wp2_with fail
    go_ret
    exact ⟨false, ⟨rfl, fun h => by cases h⟩, hb0⟩
  have t2 : decide ((nc : Int) ≤ 20) = true := by simp; omega
  go_enter Try.func19, Try.ntmps19
  go_wp2_with fail
  refine KC.out.mono ?_
  rintro e w1 ⟨rc, ⟨rfl, hrc⟩, hb1⟩
  have HR := Lib.hid hrc
  clear hrc
  obtain ⟨p0, p1, p2, p3, p4⟩ := (z.t hb1).all5
  obtain ⟨q0, q1, q2, q3, q4⟩ := (y.t hb1).all5
  have hb2 := bT hb0 hb1
  by_cases hz : rc = 0
  case neg =>
    have u : (rc == 0) = false := by simpa using hz
    go_wp2_with fail
    go_ret
    exact Yes13.no rfl hb2
  subst hz
  go_wp2_with fail
  refine (KF.out _ (HS.out.below hb2)).mono ?_
  rintro e w2 ⟨rfl, hb3⟩
  have hb4 := bT hb2 hb3
  by_cases hz : r = 0
  case neg =>
    have u : (r == 0) = false := by simpa using hz
    go_wp2_with fail
    go_ret
    exact Yes13.no rfl hb4
  subst hz
  have x2 := (x.t hb1).t hb3
  have y0 := x2.cell 0
  have y1 := x2.cell 1
  by_cases g1 : 0 ≤ n
  case neg =>
    have u : decide (0 ≤ n) = false := by simpa using g1
    go_wp2_with fail
    go_ret
    exact Yes13.no rfl hb4
  have u1 : decide (0 ≤ n) = true := by simpa using g1
  by_cases g2 : 1 ≤ d
  case neg =>
    have u : decide (1 ≤ d) = false := by simpa using g2
    go_wp2_with fail
    go_ret
    exact Yes13.no rfl hb4
  have u2 : decide (1 ≤ d) = true := by simpa using g2
  by_cases g3 : n ≤ d
  case neg =>
    have u : decide (n ≤ d) = false := by simpa using g3
    go_wp2_with fail
    go_ret
    exact Yes13.no rfl hb4
  have u3 : decide (n ≤ d) = true := by simpa using g3
  by_cases g4 : d ≤ 1048576
  case neg =>
    have u : decide (d ≤ 1048576) = false := by simpa using g4
    go_wp2_with fail
    go_ret
    exact Yes13.no rfl hb4
  have u4 : decide (d ≤ 1048576) = true := by simpa using g4
  go_wp2_with fail
  go_ret
  exact ⟨_, ⟨rfl, fun _ => ⟨HR.out trivial, h1, HF.out.symm, partB_iff.2 ⟨g1, g2, g3, g4⟩⟩⟩, hb4⟩
--%%
end Go.Proofs.Ytlfeppbhicmeoaa
