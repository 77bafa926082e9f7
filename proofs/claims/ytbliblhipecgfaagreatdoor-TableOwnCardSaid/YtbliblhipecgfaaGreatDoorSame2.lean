/-
  Contract of table.Same. Conditions as named.
-/
import Derived.Test.YtbliblhipecgfaaGreatDoorSame
import Derived.Test.YtbliblhipecgfaaGreatDoorM1
namespace Go.Proofs.YtbliblhipecgfaaGreatDoor
set_option linter.unusedVariables false
open Go.RowKit
set_option maxRecDepth 100000 in
set_option maxHeartbeats 3200000 in
theorem tsame_p (sch sch2 : List (List Bd)) (cts cts2 : List Ct) (kds kds2 : List Kd) (lim rnd lim2 rnd2 : Int) (As Ac Ak Bs Bc Bk : Option Addr) (ns cs nc cc nk ck ms ds mc dc mk dk : Nat) (w : World) (hs : ScSl w As ns sch) (hc : CtSl w Ac nc cts) (hk : KdSl w Ak nk kds) (hs2 : ScSl w Bs ms sch2) (hc2 : CtSl w Bc mc cts2) (hk2 : KdSl w Bk mk kds2) :
    Calls Tryz.prog 24 #[.agg #[.slice As ns cs, .slice Ac nc cc, .slice Ak nk ck, .int .i64 lim, .int .i64 rnd], .agg #[.slice Bs ms ds, .slice Bc mc dc, .slice Bk mk dk, .int .i64 lim2, .int .i64 rnd2]] w (SameR ((⟨sch, cts, kds, lim, rnd⟩ : Tb) = ⟨sch2, cts2, kds2, lim2, rnd2⟩) w) := by
  have hb0 := bA (below1 w (.cells #[.slice As ns cs, .slice Ac nc cc, .slice Ak nk ck, .int .i64 lim, .int .i64 rnd] 26)) (.cells #[.slice Bs ms ds, .slice Bc mc dc, .slice Bk mk dk, .int .i64 lim2, .int .i64 rnd2] 26)
  have HB0 := Lib.hid hb0
  by_cases h1 : lim = lim2
  case neg =>
    have v9 : (lim != lim2) = true := by simpa using h1
    have HG : Hid (¬ (⟨sch, cts, kds, lim, rnd⟩ : Tb) = ⟨sch2, cts2, kds2, lim2, rnd2⟩) := fun h => by injection h; contradiction
    clear h1 hs hc hk hs2 hc2 hk2 hb0
    go_enter Tryz.func24, Tryz.ntmps24
    go_wp2_with fail
    go_ret
    exact same_no HG.out HB0.out
  have v1 : (lim != lim2) = false := by simpa using h1
  by_cases h2 : rnd = rnd2
  case neg =>
    have v9 : (rnd != rnd2) = true := by simpa using h2
    have HG : Hid (¬ (⟨sch, cts, kds, lim, rnd⟩ : Tb) = ⟨sch2, cts2, kds2, lim2, rnd2⟩) := fun h => by injection h; contradiction
    clear h1 h2 hs hc hk hs2 hc2 hk2 hb0
    go_enter Tryz.func24, Tryz.ntmps24
    go_wp2_with fail
    go_ret
    exact same_no HG.out HB0.out
  have v2 : (rnd != rnd2) = false := by simpa using h2
  have HG0 : Hid ((kds = kds2) ∧ (cts = cts2) ∧ (sch = sch2) ↔ (⟨sch, cts, kds, lim, rnd⟩ : Tb) = ⟨sch2, cts2, kds2, lim2, rnd2⟩) := by
    subst h1; subst h2
    exact ⟨fun ⟨a, b, c⟩ => by rw [a, b, c], fun h => by injection h with a b c; exact ⟨c, b, a⟩⟩
  have K1 := Lib.hid (seqK_c Ak Bk nk ck mk dk kds kds2 _ (hk.below hb0) (hk2.below hb0))
  have K2 : Hid (∀ W, Below (((w.alloc (.cells #[.slice As ns cs, .slice Ac nc cc, .slice Ak nk ck, .int .i64 lim, .int .i64 rnd] 26)).alloc (.cells #[.slice Bs ms ds, .slice Bc mc dc, .slice Bk mk dk, .int .i64 lim2, .int .i64 rnd2] 26))).heap.size ((w.alloc (.cells #[.slice As ns cs, .slice Ac nc cc, .slice Ak nk ck, .int .i64 lim, .int .i64 rnd] 26)).alloc (.cells #[.slice Bs ms ds, .slice Bc mc dc, .slice Bk mk dk, .int .i64 lim2, .int .i64 rnd2] 26)) W → Calls Tryz.prog 54 #[.slice Ac nc cc, .slice Bc mc dc, .func (.func 51) #[] #[]] W (SameR (cts = cts2) W)) := fun W h => sefC_c Ac Bc nc cc mc dc cts cts2 W (hc.below (bT hb0 h)) (hc2.below (bT hb0 h))
  have K3 : Hid (∀ W, Below (((w.alloc (.cells #[.slice As ns cs, .slice Ac nc cc, .slice Ak nk ck, .int .i64 lim, .int .i64 rnd] 26)).alloc (.cells #[.slice Bs ms ds, .slice Bc mc dc, .slice Bk mk dk, .int .i64 lim2, .int .i64 rnd2] 26))).heap.size ((w.alloc (.cells #[.slice As ns cs, .slice Ac nc cc, .slice Ak nk ck, .int .i64 lim, .int .i64 rnd] 26)).alloc (.cells #[.slice Bs ms ds, .slice Bc mc dc, .slice Bk mk dk, .int .i64 lim2, .int .i64 rnd2] 26)) W → Calls Tryz.prog 55 #[.slice As ns cs, .slice Bs ms ds, .func (.func 56) #[] #[]] W (SameR (sch = sch2) W)) := fun W h => sefB_c As Bs ns cs ms ds sch sch2 W (hs.below (bT hb0 h)) (hs2.below (bT hb0 h))
  have y := (Blk.mk w 26 #[.slice As ns cs, .slice Ac nc cc, .slice Ak nk ck, .int .i64 lim, .int .i64 rnd]).alloc (.cells #[.slice Bs ms ds, .slice Bc mc dc, .slice Bk mk dk, .int .i64 lim2, .int .i64 rnd2] 26)
  have z := Blk.mk (w.alloc (.cells #[.slice As ns cs, .slice Ac nc cc, .slice Ak nk ck, .int .i64 lim, .int .i64 rnd] 26)) 26 #[.slice Bs ms ds, .slice Bc mc dc, .slice Bk mk dk, .int .i64 lim2, .int .i64 rnd2]
  have G : Hid (∀ W, Below (((w.alloc (.cells #[.slice As ns cs, .slice Ac nc cc, .slice Ak nk ck, .int .i64 lim, .int .i64 rnd] 26)).alloc (.cells #[.slice Bs ms ds, .slice Bc mc dc, .slice Bk mk dk, .int .i64 lim2, .int .i64 rnd2] 26))).heap.size ((w.alloc (.cells #[.slice As ns cs, .slice Ac nc cc, .slice Ak nk ck, .int .i64 lim, .int .i64 rnd] 26)).alloc (.cells #[.slice Bs ms ds, .slice Bc mc dc, .slice Bk mk dk, .int .i64 lim2, .int .i64 rnd2] 26)) W → (W.cell? ⟨w.heap.size, 1, none⟩ = some (.slice Ac nc cc) ∧ W.cell? ⟨w.heap.size, 0, none⟩ = some (.slice As ns cs)) ∧ (W.cell? ⟨w.heap.size + 1, 1, none⟩ = some (.slice Bc mc dc) ∧ W.cell? ⟨w.heap.size + 1, 0, none⟩ = some (.slice Bs ms ds))) := fun W hW => by
    have y' := y.t hW
    have z' := z.t hW
    simp only [World.size_alloc] at z'
    exact ⟨⟨y'.cell 1, y'.cell 0⟩, z'.cell 1, z'.cell 0⟩
  clear h1 h2 hs hc hk hs2 hc2 hk2 hb0 y z
  go_enter Tryz.func24, Tryz.ntmps24
  go_wp2_with fail
  refine K1.out.mono ?_
  rintro e w1 ⟨r1, ⟨rfl, hr1⟩, hb1⟩
  have HR1 := Lib.hid hr1
  have HB1 := Lib.hid hb1
  obtain ⟨⟨q1, q2⟩, q3, q4⟩ := G.out _ hb1
  clear hr1 hb1
  cases r1
  · have HG : Hid (¬ (⟨sch, cts, kds, lim, rnd⟩ : Tb) = ⟨sch2, cts2, kds2, lim2, rnd2⟩) := fun h => absurd (HR1.out.2 (HG0.out.2 h).1) (by decide)
    go_wp2_with fail
    go_ret
    exact same_no HG.out (bT HB0.out HB1.out)
  have HE1 : Hid (kds = kds2) := HR1.out.1 rfl
  clear HR1
  go_wp2_with fail
  refine (K2.out _ HB1.out).mono ?_
  rintro e w2 ⟨r2, ⟨rfl, hr2⟩, hb2⟩
  have HR2 := Lib.hid hr2
  have HB2 := Lib.hid (bT HB1.out hb2)
  clear hr2 hb2 q1 q2 q3 q4
  obtain ⟨⟨q1, q2⟩, q3, q4⟩ := G.out _ HB2.out
  cases r2
  · have HG : Hid (¬ (⟨sch, cts, kds, lim, rnd⟩ : Tb) = ⟨sch2, cts2, kds2, lim2, rnd2⟩) := fun h => absurd (HR2.out.2 (HG0.out.2 h).2.1) (by decide)
    go_wp2_with fail
    go_ret
    exact same_no HG.out (bT HB0.out HB2.out)
  have HE2 : Hid (cts = cts2) := HR2.out.1 rfl
  clear HR2
  go_wp2_with fail
  refine (K3.out _ HB2.out).mono ?_
  rintro e w3 ⟨r3, ⟨rfl, hr3⟩, hb3⟩
  have HR3 := Lib.hid hr3
  have HB3 := Lib.hid (bT HB2.out hb3)
  clear hr3 hb3
  have HG : Hid ((r3 = true) ↔ (⟨sch, cts, kds, lim, rnd⟩ : Tb) = ⟨sch2, cts2, kds2, lim2, rnd2⟩) := ⟨fun h => HG0.out.1 ⟨HE1.out, HE2.out, HR3.out.1 h⟩, fun h => HR3.out.2 (HG0.out.2 h).2.2⟩
  go_wp2_with fail
  go_ret
  exact ⟨r3, ⟨rfl, HG.out⟩, bT HB0.out HB3.out⟩
--%%
end Go.Proofs.YtbliblhipecgfaaGreatDoor
