/-
  The walk of TableChecks. Conditions as named.
-/
import Derived.Test.YtbliblhipecgfaaGreatDoorTBuild
import Derived.Test.YtbliblhipecgfaaGreatDoorTSmall
import Derived.Test.YtbliblhipecgfaaGreatDoorTWrong
namespace Go.Proofs.YtbliblhipecgfaaGreatDoor
set_option linter.unusedVariables false
open Go.RowKit
--%%
set_option maxRecDepth 100000 in
set_option maxHeartbeats 3200000 in
theorem tableChecks_row (sch : List (List Bd)) (cts : List Ct) (kds : List Kd) (As Ac Ak : Option Addr) (ns cs nc cc nk ck : Nat) (lim rnd : Int) (w : World) (h : TbIn w sch cts kds As Ac Ak ns cs nc cc nk ck) (htab : Tab w) (htab2 : TabS w) (hml : ML w) :
    Calls Tryz.prog 3 #[.agg #[.slice As ns cs, .slice Ac nc cc, .slice Ak nk ck, .int .i64 lim, .int .i64 rnd]] w fun e w' => e = .returned (.bool true) ∧ Below w.heap.size w w' := by
  have hb0 := below1 w (.cells #[.slice As ns cs, .slice Ac nc cc, .slice Ak nk ck, .int .i64 lim, .int .i64 rnd] 26)
  have HB0 := Lib.hid hb0
  have HZ := Lib.hid (Blk.mk w 26 #[.slice As ns cs, .slice Ac nc cc, .slice Ak nk ck, .int .i64 lim, .int .i64 rnd])
  have KB := Lib.hid (builds_c _ (hml.t hb0) (htab2.t hb0) (htab.t hb0))
  have KS : Hid (∀ W, Below w.heap.size w W → Calls Tryz.prog 12 #[.agg #[.slice As ns cs, .slice Ac nc cc, .slice Ak nk ck, .int .i64 lim, .int .i64 rnd]] W (SmallR sch cts kds W)) := fun W hW => small_c sch cts kds As Ac Ak ns cs nc cc nk ck lim rnd W (h.s.below hW) (h.c.below hW) (h.k.below hW)
  obtain ⟨r, hr⟩ : ∃ r, r = tbE ⟨sch, cts, kds, lim, rnd⟩ := ⟨_, rfl⟩
  have KW : Hid (∀ W, Below w.heap.size w W → Calls Tryz.prog 13 #[.agg #[.slice As ns cs, .slice Ac nc cc, .slice Ak nk ck, .int .i64 lim, .int .i64 rnd]] W fun e w' => e = .returned (.int .i64 r) ∧ Below W.heap.size W w') := fun W hW => wrong_c sch cts kds As Ac Ak ns cs nc cc nk ck lim rnd W (h.s.below hW) (h.c.below hW) (h.k.below hW) r hr
  have KC : Hid (∀ W, Below w.heap.size w W → Calls Tryz.prog 14 #[.agg #[.slice As ns cs, .slice Ac nc cc, .slice Ak nk ck, .int .i64 lim, .int .i64 rnd]] W fun e w' => e = .returned (.int .i64 r) ∧ Below W.heap.size W w') := fun W hW => xcheck_c sch cts kds As Ac Ak ns cs nc cc nk ck lim rnd W (h.s.below hW) (h.c.below hW) h.cc (h.k.below hW) h.ck r hr
  have KL : Hid (∀ W, Below w.heap.size w W → Calls Tryz.prog 15 #[.agg #[.slice As ns cs, .slice Ac nc cc, .slice Ak nk ck, .int .i64 lim, .int .i64 rnd]] W (LinesR ⟨sch, cts, kds, lim, rnd⟩ W)) := fun W hW => tlines_c ⟨sch, cts, kds, lim, rnd⟩ As Ac Ak ns cs nc cc nk ck W ⟨h.s.below hW, h.c.below hW, h.k.below hW, h.cs, h.cc, h.ck⟩ (htab.t hW) (htab2.t hW)
  have HR := Lib.hid hr
  clear hb0 h htab htab2 hml hr
  go_enter Tryz.func3, Tryz.ntmps3
  go_wp2_with fail
  refine KB.out.mono ?_
  rintro e w1 ⟨⟨Bs, ds, Bc, dc, Bk, dk, rfl, _⟩, hb1⟩
  simp only [tbV]
  have HB1 := Lib.hid (bA (bT HB0.out hb1) (.cells #[.slice Bs 1 ds, .slice Bc 1 dc, .slice Bk 2 dk, .int .i64 5000, .int .i64 1] 26))
  have HZ1 := Lib.hid ((HZ.out.t hb1).alloc (.cells #[.slice Bs 1 ds, .slice Bc 1 dc, .slice Bk 2 dk, .int .i64 5000, .int .i64 1] 26))
  obtain ⟨p0, p1, p2, p3, p4⟩ := HZ1.out.all5
  clear KB HZ hb1
  go_wp2_with fail
  refine (KS.out _ HB1.out).mono ?_
  rintro e w2 ⟨b, ⟨rfl, _⟩, hb2⟩
  have HB2 := Lib.hid (bT HB1.out hb2)
  have HZ2 := Lib.hid (HZ1.out.t hb2)
  clear hb2 p0 p1 p2 p3 p4 KS
  cases b
  · go_wp2_with fail
    go_ret
    exact ⟨rfl, HB2.out⟩
  obtain ⟨p0, p1, p2, p3, p4⟩ := HZ2.out.all5
  go_wp2_with fail
  refine (KW.out _ HB2.out).mono ?_
  rintro e w3 ⟨rfl, hb3⟩
  have HB3 := Lib.hid (bT HB2.out hb3)
  have HZ3 := Lib.hid (HZ2.out.t hb3)
  clear hb3 p0 p1 p2 p3 p4 KW
  obtain ⟨p0, p1, p2, p3, p4⟩ := HZ3.out.all5
  go_wp2_with fail
  refine (KC.out _ HB3.out).mono ?_
  rintro e w4 ⟨rfl, hb4⟩
  have HB4 := Lib.hid (bT HB3.out hb4)
  have HZ4 := Lib.hid (HZ3.out.t hb4)
  clear hb4 p0 p1 p2 p3 p4 KC
  by_cases h0 : r = 0
  · subst h0
    go_wp2_with fail
    go_ret
    exact ⟨rfl, HB4.out⟩
  have v0 : (r == 0) = false := by simpa using h0
  have HNE : Hid (tbE ⟨sch, cts, kds, lim, rnd⟩ ≠ 0) := fun h => h0 (HR.out.trans h)
  obtain ⟨p0, p1, p2, p3, p4⟩ := HZ4.out.all5
  clear h0
  go_wp2_with fail
  refine (KL.out _ HB4.out).mono ?_
  rintro e w5 ⟨hl, hb5⟩
  have HB5 := Lib.hid (bT HB4.out hb5)
  rcases hl with ⟨hl, _⟩ | ⟨_, rfl⟩
  · exact absurd hl HNE.out
  clear hb5 KL
  go_wp2_with fail
  go_ret
  exact ⟨rfl, HB5.out⟩
--%%
end Go.Proofs.YtbliblhipecgfaaGreatDoor
