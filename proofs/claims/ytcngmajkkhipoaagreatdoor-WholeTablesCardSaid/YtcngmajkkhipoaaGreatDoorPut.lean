/-
  Contract of table.Put. Conditions as named.
-/
import Derived.Test.YtcngmajkkhipoaaGreatDoorM2
import Derived.Test.YtcngmajkkhipoaaGreatDoorM1
import Derived.Deep.DeepCutAuto
namespace Go.Proofs.YtcngmajkkhipoaaGreatDoor
set_option linter.unusedVariables false
open Go.RowKit
--%%
set_option maxRecDepth 100000 in
set_option maxHeartbeats 3200000 in
theorem tput_few (sch : List (List Bd)) (cts : List Ct) (kds : List Kd) (As Ac Ak : Option Addr) (ns cs nc cc nk ck : Nat) (lim rnd : Int) (A : Option Addr) (n c : Nat) (L : List ByteArray) (w : World) (hS : ScSl w As ns sch) (hC : CtSl w Ac nc cts) (hK : KdSl w Ak nk kds) (hn : ns ≤ 100000 ∧ nc ≤ 100000 ∧ nk ≤ 100000) (hb : (∀ k, k < ns → (sch.getD k []).length ≤ 100000) ∧ (∀ k, k < nc → (cts.getD k ct0).bands.length ≤ 100000)) (hl : StSl w A n L) (hc : n ≤ c) (hs : ∀ k, k < n → (L.getD k st0).size ≤ 1000000) (hn2 : n ≤ 1000) (hm : ML w) (ht : TabS w) (h2 : n < 2) : Calls Tryz.prog 4 #[.agg #[.slice As ns cs, .slice Ac nc cc, .slice Ak nk ck, .int .i64 lim, .int .i64 rnd], .slice A n c] w (PutR ⟨sch, cts, kds, lim, rnd⟩ As Ac Ak ns cs nc cc nk ck n L w) := by
  have v : decide ((n : Int) < 2) = true := by simp; omega
  have HE : Hid (putE n L = 5) := by unfold Hid putE; rw [if_pos h2]
  have HB0 := Lib.hid (bA (below1 w (.cells #[.slice As ns cs, .slice Ac nc cc, .slice Ak nk ck, .int .i64 lim, .int .i64 rnd] 26)) (.cells #[.slice none 0 0, .slice none 0 0, .slice none 0 0, .int .i64 0, .int .i64 0] 26))
  clear h2 hS hC hK hb hl hs hm ht hn
  go_enter Tryz.func4, Tryz.ntmps4
  go_wp2_with fail
  refine bodyPost_ret (v := .tuple #[.agg #[.slice As ns cs, .slice Ac nc cc, .slice Ak nk ck, .int .i64 lim, .int .i64 rnd], .int .i64 5]) (by simp [results, Tryz.results4, go_sem]) rfl (put_no (t := ⟨sch, cts, kds, lim, rnd⟩) HE.out (by decide) ?_)
  first | exact HB0.out | exact bA (below1 w (.cells #[.slice As ns cs, .slice Ac nc cc, .slice Ak nk ck, .int .i64 lim, .int .i64 rnd] 26)) _
--%%
set_option maxRecDepth 100000 in
set_option maxHeartbeats 6400000 in
theorem tput_limit (sch : List (List Bd)) (cts : List Ct) (kds : List Kd) (As Ac Ak : Option Addr) (ns cs nc cc nk ck : Nat) (lim rnd : Int) (A : Option Addr) (n c : Nat) (L : List ByteArray) (w : World) (hS : ScSl w As ns sch) (hC : CtSl w Ac nc cts) (hK : KdSl w Ak nk kds) (hn : ns ≤ 100000 ∧ nc ≤ 100000 ∧ nk ≤ 100000) (hb : (∀ k, k < ns → (sch.getD k []).length ≤ 100000) ∧ (∀ k, k < nc → (cts.getD k ct0).bands.length ≤ 100000)) (hl : StSl w A n L) (hc : n ≤ c) (hs : ∀ k, k < n → (L.getD k st0).size ≤ 1000000) (hn2 : n ≤ 1000) (hm : ML w) (ht : TabS w) (h2 : 2 ≤ n) (hlimit : L.getD 0 st0 = ⟨#[108, 105, 109, 105, 116]⟩) : Calls Tryz.prog 4 #[.agg #[.slice As ns cs, .slice Ac nc cc, .slice Ak nk ck, .int .i64 lim, .int .i64 rnd], .slice A n c] w (PutR ⟨sch, cts, kds, lim, rnd⟩ As Ac Ak ns cs nc cc nk ck n L w) := by
  have v2 : decide ((n : Int) < 2) = false := by simp; omega
  have t0 : ((L.getD 0 st0).toList == [108, 105, 109, 105, 116]) = true := by rw [str_const]; exact decide_eq_true hlimit
  have HE : Hid (putE n L = if n = 2 then inE (L.getD 1 st0).data.toList else 5) := by unfold Hid putE; rw [if_neg (by omega), if_pos hlimit]
  have HV : Hid (putV ⟨sch, cts, kds, lim, rnd⟩ L = ⟨sch, cts, kds, inV (L.getD 1 st0).data.toList, rnd⟩) := by unfold Hid putV; rw [if_pos hlimit]
  obtain ⟨b, off, rfl, hlt, hat⟩ := hl.2.2 (by omega)
  have c0 := hat 0 (by omega) 0 _ rfl
  have c1 := hat 1 (by omega) 0 _ rfl
  simp only [Nat.zero_mul, Nat.add_zero, Nat.one_mul] at c0 c1
  have hz0 := hs 0 (by omega)
  have hz1 := hs 1 (by omega)
  have HL := Lib.hid hl
  have HSZ := Lib.hid hs
  have HSD : Hid (∀ k, k < n - 1 → ((L.drop 1).getD k st0).size ≤ 1000000) := fun k hk => by
    rw [getD_drop L 1 k]; exact hs _ (by omega)
  have HM := Lib.hid hm
  have HT := Lib.hid ht
  have HB0 := Lib.hid (bA (below1 w (.cells #[.slice As ns cs, .slice Ac nc cc, .slice Ak nk ck, .int .i64 lim, .int .i64 rnd] 26)) (.cells #[.slice none 0 0, .slice none 0 0, .slice none 0 0, .int .i64 0, .int .i64 0] 26))
  have KC : Hid (∀ W, Below w.heap.size w W → Calls Tryz.prog 12 #[.agg #[.slice As ns cs, .slice Ac nc cc, .slice Ak nk ck, .int .i64 lim, .int .i64 rnd]] W (CloneR sch cts kds ns nc nk lim rnd W)) := fun W hW => tclone_c sch cts kds As Ac Ak ns cs nc cc nk ck lim rnd W (hS.below hW) (hC.below hW) (hK.below hW) hn hb
  have x1 := (Blk.mk w 26 #[.slice As ns cs, .slice Ac nc cc, .slice Ak nk ck, .int .i64 lim, .int .i64 rnd]).alloc (.cells #[.slice none 0 0, .slice none 0 0, .slice none 0 0, .int .i64 0, .int .i64 0] 26)
  have x2 := Blk.mk (w.alloc (.cells #[.slice As ns cs, .slice Ac nc cc, .slice Ak nk ck, .int .i64 lim, .int .i64 rnd] 26)) 26 #[.slice none 0 0, .slice none 0 0, .slice none 0 0, .int .i64 0, .int .i64 0]
  rw [World.size_alloc] at x2
  have HX1 := Lib.hid x1
  have HX2 := Lib.hid x2
  obtain ⟨hns, hnc, hnk⟩ := hn
  have HCAP := Lib.hid hc
  have HC1 : Hid (∀ W, Below w.heap.size w W → W.cell? ⟨b, off + 1, none⟩ = some (.string (L.getD 1 st0))) := fun W hW => (hW.cell (p := ⟨b, _, none⟩) hlt).trans c1
  have HC0 : Hid (∀ W, Below w.heap.size w W → W.cell? ⟨b, off, none⟩ = some (.string (L.getD 0 st0))) := fun W hW => (hW.cell (p := ⟨b, _, none⟩) hlt).trans c0
  clear hS hC hK hb hl hs hm ht x1 x2 hat c0 c1
  generalize L.getD 0 st0 = s0 at *
  have K1 : Hid (∀ W, TabS W → Calls Tryz.prog 13 #[.string (L.getD 1 st0)] W fun e w' => e = .returned (.tuple #[.int .i64 (inV (L.getD 1 st0).data.toList), .int .i64 (inE (L.getD 1 st0).data.toList)]) ∧ Below W.heap.size W w') := fun W h => int_any (L.getD 1 st0) W hz1
  generalize inV (L.getD 1 st0).data.toList = vv at *
  generalize inE (L.getD 1 st0).data.toList = ee at *
  go_enter Tryz.func4, Tryz.ntmps4
  go_wp2_with fail
  refine (KC.out _ HB0.out).mono ?_
  rintro e w1 ⟨⟨As1, cs1, Ac1, cc1, Ak1, ck1, rfl, hO⟩, hb1⟩
  have HB1 := Lib.hid (bA (bT HB0.out hb1) (.cells #[.slice As1 ns cs1, .slice Ac1 nc cc1, .slice Ak1 nk ck1, .int .i64 lim, .int .i64 rnd] 26))
  have HO1 : Hid (OwnT w1 w.heap.size sch cts kds As1 Ac1 Ak1 ns cs1 nc cc1 nk ck1) := by
    have hz := HB0.out.size
    obtain ⟨⟨ls, e1, o1, b1⟩, ⟨lc, e2, o2, b2⟩, o3, b3⟩ := hO
    exact ⟨⟨ls, e1, own_more o1 hz, fun p hp => ⟨(b1 p hp).1, own_more (b1 p hp).2 hz⟩⟩, ⟨lc, e2, own_more o2 hz, fun p hp => ⟨⟨(b2 p hp).1.1, own_more (b2 p hp).1.2 hz⟩, (b2 p hp).2⟩⟩, own_more o3 hz, b3⟩
  have HX1a := Lib.hid ((HX1.out.t hb1).alloc (.cells #[.slice As1 ns cs1, .slice Ac1 nc cc1, .slice Ak1 nk ck1, .int .i64 lim, .int .i64 rnd] 26))
  have HX2a := Lib.hid ((HX2.out.t hb1).alloc (.cells #[.slice As1 ns cs1, .slice Ac1 nc cc1, .slice Ak1 nk ck1, .int .i64 lim, .int .i64 rnd] 26))
  have HX3a := Lib.hid (Blk.mk w1 26 #[.slice As1 ns cs1, .slice Ac1 nc cc1, .slice Ak1 nk ck1, .int .i64 lim, .int .i64 rnd])
  have HOa := Lib.hid (HO1.out.below (below1 w1 (.cells #[.slice As1 ns cs1, .slice Ac1 nc cc1, .slice Ak1 nk ck1, .int .i64 lim, .int .i64 rnd] 26)))
  have hz1' := (bT HB0.out hb1).size
  have hb1s := hb1.size
  have hw2 : w.heap.size + 1 + 1 ≤ w1.heap.size := by simpa using hb1s
  have ne1 : ¬ w.heap.size = w1.heap.size := by omega
  have ne2 : ¬ w1.heap.size = w.heap.size := by omega
  have ne3 : ¬ w.heap.size + 1 = w1.heap.size := by omega
  have ne4 : ¬ w1.heap.size = w.heap.size + 1 := by omega
  have q0 := HC0.out _ HB1.out
  have q1 := HC1.out _ HB1.out
  clear hO hb1 hb1s
  by_cases h22 : n = 2
  case neg =>
    have v3 : ((n : Int) == 2) = false := by simp; omega
    have HW : Hid (putE n L = 5) := by unfold Hid; rw [HE.out, if_neg h22]
    clear h22
    obtain ⟨⟨y0, y1, y2, y3, y4⟩, _⟩ := HX1a.out.a5g
    obtain ⟨⟨z0, z1, z2, z3, z4⟩, f0, f1, f2, f3, f4⟩ := HX2a.out.a5g
    go_wp2_with fail
    refine bodyPost_ret (v := .tuple #[.agg #[.slice As ns cs, .slice Ac nc cc, .slice Ak nk ck, .int .i64 lim, .int .i64 rnd], .int .i64 5]) (by simp [results, Tryz.results4, go_sem, z0, z1, z2, z3, z4]) rfl (put_no (t := ⟨sch, cts, kds, lim, rnd⟩) HW.out (by decide) ?_)
    exact bS5s HB1.out (Nat.le_succ _) _ _ _ _ _
  have v3 : ((n : Int) == 2) = true := by simp; omega
  have HE2 := Lib.hid (HE.out.trans (if_pos h22))
  clear h22
  go_wp2_with fail
  refine (K1.out _ (HT.out.t HB1.out)).mono ?_
  rintro e w2 ⟨rfl, hb2⟩
  have HB2 := Lib.hid (bT HB1.out hb2)
  have HX1b := Lib.hid (HX1a.out.t hb2)
  have HX2b := Lib.hid (HX2a.out.t hb2)
  have HX3b := Lib.hid (HX3a.out.t hb2)
  have HOb := Lib.hid (HOa.out.below hb2)
  clear hb2 q0 q1
  obtain ⟨⟨u0, u1, u2, u3, u4⟩, g0, g1, g2, g3, g4⟩ := HX3b.out.a5g
  have HX1c := Lib.hid (HX1b.out.setO ne1 3 (.int .i64 vv))
  have HX2c := Lib.hid (HX2b.out.setO ne3 3 (.int .i64 vv))
  have HX3c := Lib.hid (HX3b.out.setJ 3 (.int .i64 vv))
  have HOc := Lib.hid (HOb.out.setO HX3b.out 3 (.int .i64 vv))
  have HBc := Lib.hid (bS (p := ⟨w1.heap.size, 3, none⟩) HB2.out hz1' (.int .i64 vv))
  by_cases hee : ee = 0
  case neg =>
    have v4 : (ee != 0) = true := by simpa using hee
    have HNZ := Lib.hid hee
    clear hee
    obtain ⟨⟨y0, y1, y2, y3, y4⟩, _⟩ := HX1b.out.a5g
    obtain ⟨⟨z0, z1, z2, z3, z4⟩, f0, f1, f2, f3, f4⟩ := HX2b.out.a5g
    go_wp2_with fail
    refine bodyPost_ret (v := .tuple #[.agg #[.slice As ns cs, .slice Ac nc cc, .slice Ak nk ck, .int .i64 lim, .int .i64 rnd], .int .i64 ee]) (by simp [results, Tryz.results4, go_sem, z0, z1, z2, z3, z4]) rfl (put_no (t := ⟨sch, cts, kds, lim, rnd⟩) HE2.out HNZ.out ?_)
    exact bS5s HBc.out (Nat.le_succ _) _ _ _ _ _
  subst hee
  obtain ⟨⟨z0, z1, z2, z3, z4⟩, f0, f1, f2, f3, f4⟩ := HX2b.out.a5g
  go_wp2_with fail
  refine bodyPost_ret (v := .tuple #[.agg #[.slice As1 ns cs1, .slice Ac1 nc cc1, .slice Ak1 nk ck1, .int .i64 vv, .int .i64 rnd], .int .i64 0]) (by simp [results, Tryz.results4, go_sem, z0, z1, z2, z3, z4]) rfl (put_yes HE2.out HV.out ?_ ?_)
  · exact HOc.out.set5 HX2c.out _ _ _ _ _
  · exact bS5s HBc.out (Nat.le_succ _) _ _ _ _ _
--%%
set_option maxRecDepth 100000 in
set_option maxHeartbeats 6400000 in
theorem tput_round (sch : List (List Bd)) (cts : List Ct) (kds : List Kd) (As Ac Ak : Option Addr) (ns cs nc cc nk ck : Nat) (lim rnd : Int) (A : Option Addr) (n c : Nat) (L : List ByteArray) (w : World) (hS : ScSl w As ns sch) (hC : CtSl w Ac nc cts) (hK : KdSl w Ak nk kds) (hn : ns ≤ 100000 ∧ nc ≤ 100000 ∧ nk ≤ 100000) (hb : (∀ k, k < ns → (sch.getD k []).length ≤ 100000) ∧ (∀ k, k < nc → (cts.getD k ct0).bands.length ≤ 100000)) (hl : StSl w A n L) (hc : n ≤ c) (hs : ∀ k, k < n → (L.getD k st0).size ≤ 1000000) (hn2 : n ≤ 1000) (hm : ML w) (ht : TabS w) (h2 : 2 ≤ n) (hlimit : ¬ L.getD 0 st0 = ⟨#[108, 105, 109, 105, 116]⟩) (hround : L.getD 0 st0 = ⟨#[114, 111, 117, 110, 100]⟩) : Calls Tryz.prog 4 #[.agg #[.slice As ns cs, .slice Ac nc cc, .slice Ak nk ck, .int .i64 lim, .int .i64 rnd], .slice A n c] w (PutR ⟨sch, cts, kds, lim, rnd⟩ As Ac Ak ns cs nc cc nk ck n L w) := by
  have v2 : decide ((n : Int) < 2) = false := by simp; omega
  have t0 : ((L.getD 0 st0).toList == [108, 105, 109, 105, 116]) = false := by rw [str_const]; exact decide_eq_false hlimit
  have t1 : ((L.getD 0 st0).toList == [114, 111, 117, 110, 100]) = true := by rw [str_const]; exact decide_eq_true hround
  have HE : Hid (putE n L = if n = 2 then modeE (L.getD 1 st0) else 5) := by unfold Hid putE; rw [if_neg (by omega), if_neg hlimit, if_pos hround]
  have HV : Hid (putV ⟨sch, cts, kds, lim, rnd⟩ L = ⟨sch, cts, kds, lim, modeV (L.getD 1 st0)⟩) := by unfold Hid putV; rw [if_neg hlimit, if_pos hround]
  obtain ⟨b, off, rfl, hlt, hat⟩ := hl.2.2 (by omega)
  have c0 := hat 0 (by omega) 0 _ rfl
  have c1 := hat 1 (by omega) 0 _ rfl
  simp only [Nat.zero_mul, Nat.add_zero, Nat.one_mul] at c0 c1
  have hz0 := hs 0 (by omega)
  have hz1 := hs 1 (by omega)
  have HL := Lib.hid hl
  have HSZ := Lib.hid hs
  have HSD : Hid (∀ k, k < n - 1 → ((L.drop 1).getD k st0).size ≤ 1000000) := fun k hk => by
    rw [getD_drop L 1 k]; exact hs _ (by omega)
  have HM := Lib.hid hm
  have HT := Lib.hid ht
  have HB0 := Lib.hid (bA (below1 w (.cells #[.slice As ns cs, .slice Ac nc cc, .slice Ak nk ck, .int .i64 lim, .int .i64 rnd] 26)) (.cells #[.slice none 0 0, .slice none 0 0, .slice none 0 0, .int .i64 0, .int .i64 0] 26))
  have KC : Hid (∀ W, Below w.heap.size w W → Calls Tryz.prog 12 #[.agg #[.slice As ns cs, .slice Ac nc cc, .slice Ak nk ck, .int .i64 lim, .int .i64 rnd]] W (CloneR sch cts kds ns nc nk lim rnd W)) := fun W hW => tclone_c sch cts kds As Ac Ak ns cs nc cc nk ck lim rnd W (hS.below hW) (hC.below hW) (hK.below hW) hn hb
  have x1 := (Blk.mk w 26 #[.slice As ns cs, .slice Ac nc cc, .slice Ak nk ck, .int .i64 lim, .int .i64 rnd]).alloc (.cells #[.slice none 0 0, .slice none 0 0, .slice none 0 0, .int .i64 0, .int .i64 0] 26)
  have x2 := Blk.mk (w.alloc (.cells #[.slice As ns cs, .slice Ac nc cc, .slice Ak nk ck, .int .i64 lim, .int .i64 rnd] 26)) 26 #[.slice none 0 0, .slice none 0 0, .slice none 0 0, .int .i64 0, .int .i64 0]
  rw [World.size_alloc] at x2
  have HX1 := Lib.hid x1
  have HX2 := Lib.hid x2
  obtain ⟨hns, hnc, hnk⟩ := hn
  have HCAP := Lib.hid hc
  have HC1 : Hid (∀ W, Below w.heap.size w W → W.cell? ⟨b, off + 1, none⟩ = some (.string (L.getD 1 st0))) := fun W hW => (hW.cell (p := ⟨b, _, none⟩) hlt).trans c1
  have HC0 : Hid (∀ W, Below w.heap.size w W → W.cell? ⟨b, off, none⟩ = some (.string (L.getD 0 st0))) := fun W hW => (hW.cell (p := ⟨b, _, none⟩) hlt).trans c0
  clear hS hC hK hb hl hs hm ht x1 x2 hat c0 c1
  generalize L.getD 0 st0 = s0 at *
  have K1 : Hid (∀ W, TabS W → Calls Tryz.prog 14 #[.string (L.getD 1 st0)] W fun e w' => e = .returned (.tuple #[.int .i64 (modeV (L.getD 1 st0)), .int .i64 (modeE (L.getD 1 st0))]) ∧ Below W.heap.size W w') := fun W h => tmode_c (L.getD 1 st0) W h
  generalize modeV (L.getD 1 st0) = vv at *
  generalize modeE (L.getD 1 st0) = ee at *
  go_enter Tryz.func4, Tryz.ntmps4
  go_wp2_with fail
  refine (KC.out _ HB0.out).mono ?_
  rintro e w1 ⟨⟨As1, cs1, Ac1, cc1, Ak1, ck1, rfl, hO⟩, hb1⟩
  have HB1 := Lib.hid (bA (bT HB0.out hb1) (.cells #[.slice As1 ns cs1, .slice Ac1 nc cc1, .slice Ak1 nk ck1, .int .i64 lim, .int .i64 rnd] 26))
  have HO1 : Hid (OwnT w1 w.heap.size sch cts kds As1 Ac1 Ak1 ns cs1 nc cc1 nk ck1) := by
    have hz := HB0.out.size
    obtain ⟨⟨ls, e1, o1, b1⟩, ⟨lc, e2, o2, b2⟩, o3, b3⟩ := hO
    exact ⟨⟨ls, e1, own_more o1 hz, fun p hp => ⟨(b1 p hp).1, own_more (b1 p hp).2 hz⟩⟩, ⟨lc, e2, own_more o2 hz, fun p hp => ⟨⟨(b2 p hp).1.1, own_more (b2 p hp).1.2 hz⟩, (b2 p hp).2⟩⟩, own_more o3 hz, b3⟩
  have HX1a := Lib.hid ((HX1.out.t hb1).alloc (.cells #[.slice As1 ns cs1, .slice Ac1 nc cc1, .slice Ak1 nk ck1, .int .i64 lim, .int .i64 rnd] 26))
  have HX2a := Lib.hid ((HX2.out.t hb1).alloc (.cells #[.slice As1 ns cs1, .slice Ac1 nc cc1, .slice Ak1 nk ck1, .int .i64 lim, .int .i64 rnd] 26))
  have HX3a := Lib.hid (Blk.mk w1 26 #[.slice As1 ns cs1, .slice Ac1 nc cc1, .slice Ak1 nk ck1, .int .i64 lim, .int .i64 rnd])
  have HOa := Lib.hid (HO1.out.below (below1 w1 (.cells #[.slice As1 ns cs1, .slice Ac1 nc cc1, .slice Ak1 nk ck1, .int .i64 lim, .int .i64 rnd] 26)))
  have hz1' := (bT HB0.out hb1).size
  have hb1s := hb1.size
  have hw2 : w.heap.size + 1 + 1 ≤ w1.heap.size := by simpa using hb1s
  have ne1 : ¬ w.heap.size = w1.heap.size := by omega
  have ne2 : ¬ w1.heap.size = w.heap.size := by omega
  have ne3 : ¬ w.heap.size + 1 = w1.heap.size := by omega
  have ne4 : ¬ w1.heap.size = w.heap.size + 1 := by omega
  have q0 := HC0.out _ HB1.out
  have q1 := HC1.out _ HB1.out
  clear hO hb1 hb1s
  by_cases h22 : n = 2
  case neg =>
    have v3 : ((n : Int) == 2) = false := by simp; omega
    have HW : Hid (putE n L = 5) := by unfold Hid; rw [HE.out, if_neg h22]
    clear h22
    obtain ⟨⟨y0, y1, y2, y3, y4⟩, _⟩ := HX1a.out.a5g
    obtain ⟨⟨z0, z1, z2, z3, z4⟩, f0, f1, f2, f3, f4⟩ := HX2a.out.a5g
    go_wp2_with fail
    refine bodyPost_ret (v := .tuple #[.agg #[.slice As ns cs, .slice Ac nc cc, .slice Ak nk ck, .int .i64 lim, .int .i64 rnd], .int .i64 5]) (by simp [results, Tryz.results4, go_sem, z0, z1, z2, z3, z4]) rfl (put_no (t := ⟨sch, cts, kds, lim, rnd⟩) HW.out (by decide) ?_)
    exact bS5s HB1.out (Nat.le_succ _) _ _ _ _ _
  have v3 : ((n : Int) == 2) = true := by simp; omega
  have HE2 := Lib.hid (HE.out.trans (if_pos h22))
  clear h22
  go_wp2_with fail
  refine (K1.out _ (HT.out.t HB1.out)).mono ?_
  rintro e w2 ⟨rfl, hb2⟩
  have HB2 := Lib.hid (bT HB1.out hb2)
  have HX1b := Lib.hid (HX1a.out.t hb2)
  have HX2b := Lib.hid (HX2a.out.t hb2)
  have HX3b := Lib.hid (HX3a.out.t hb2)
  have HOb := Lib.hid (HOa.out.below hb2)
  clear hb2 q0 q1
  obtain ⟨⟨u0, u1, u2, u3, u4⟩, g0, g1, g2, g3, g4⟩ := HX3b.out.a5g
  have HX1c := Lib.hid (HX1b.out.setO ne1 4 (.int .i64 vv))
  have HX2c := Lib.hid (HX2b.out.setO ne3 4 (.int .i64 vv))
  have HX3c := Lib.hid (HX3b.out.setJ 4 (.int .i64 vv))
  have HOc := Lib.hid (HOb.out.setO HX3b.out 4 (.int .i64 vv))
  have HBc := Lib.hid (bS (p := ⟨w1.heap.size, 4, none⟩) HB2.out hz1' (.int .i64 vv))
  by_cases hee : ee = 0
  case neg =>
    have v4 : (ee != 0) = true := by simpa using hee
    have HNZ := Lib.hid hee
    clear hee
    obtain ⟨⟨y0, y1, y2, y3, y4⟩, _⟩ := HX1b.out.a5g
    obtain ⟨⟨z0, z1, z2, z3, z4⟩, f0, f1, f2, f3, f4⟩ := HX2b.out.a5g
    go_wp2_with fail
    refine bodyPost_ret (v := .tuple #[.agg #[.slice As ns cs, .slice Ac nc cc, .slice Ak nk ck, .int .i64 lim, .int .i64 rnd], .int .i64 ee]) (by simp [results, Tryz.results4, go_sem, z0, z1, z2, z3, z4]) rfl (put_no (t := ⟨sch, cts, kds, lim, rnd⟩) HE2.out HNZ.out ?_)
    exact bS5s HBc.out (Nat.le_succ _) _ _ _ _ _
  subst hee
  obtain ⟨⟨z0, z1, z2, z3, z4⟩, f0, f1, f2, f3, f4⟩ := HX2b.out.a5g
  go_wp2_with fail
  refine bodyPost_ret (v := .tuple #[.agg #[.slice As1 ns cs1, .slice Ac1 nc cc1, .slice Ak1 nk ck1, .int .i64 lim, .int .i64 vv], .int .i64 0]) (by simp [results, Tryz.results4, go_sem, z0, z1, z2, z3, z4]) rfl (put_yes HE2.out HV.out ?_ ?_)
  · exact HOc.out.set5 HX2c.out _ _ _ _ _
  · exact bS5s HBc.out (Nat.le_succ _) _ _ _ _ _
--%%
set_option maxRecDepth 100000 in
set_option maxHeartbeats 6400000 in
theorem tput_scheme (sch : List (List Bd)) (cts : List Ct) (kds : List Kd) (As Ac Ak : Option Addr) (ns cs nc cc nk ck : Nat) (lim rnd : Int) (A : Option Addr) (n c : Nat) (L : List ByteArray) (w : World) (hS : ScSl w As ns sch) (hC : CtSl w Ac nc cts) (hK : KdSl w Ak nk kds) (hn : ns ≤ 100000 ∧ nc ≤ 100000 ∧ nk ≤ 100000) (hb : (∀ k, k < ns → (sch.getD k []).length ≤ 100000) ∧ (∀ k, k < nc → (cts.getD k ct0).bands.length ≤ 100000)) (hl : StSl w A n L) (hc : n ≤ c) (hs : ∀ k, k < n → (L.getD k st0).size ≤ 1000000) (hn2 : n ≤ 1000) (hm : ML w) (ht : TabS w) (h2 : 2 ≤ n) (hlimit : ¬ L.getD 0 st0 = ⟨#[108, 105, 109, 105, 116]⟩) (hround : ¬ L.getD 0 st0 = ⟨#[114, 111, 117, 110, 100]⟩) (hscheme : L.getD 0 st0 = ⟨#[115, 99, 104, 101, 109, 101]⟩) : Calls Tryz.prog 4 #[.agg #[.slice As ns cs, .slice Ac nc cc, .slice Ak nk ck, .int .i64 lim, .int .i64 rnd], .slice A n c] w (PutR ⟨sch, cts, kds, lim, rnd⟩ As Ac Ak ns cs nc cc nk ck n L w) := by
  have v2 : decide ((n : Int) < 2) = false := by simp; omega
  have t0 : ((L.getD 0 st0).toList == [108, 105, 109, 105, 116]) = false := by rw [str_const]; exact decide_eq_false hlimit
  have t1 : ((L.getD 0 st0).toList == [114, 111, 117, 110, 100]) = false := by rw [str_const]; exact decide_eq_false hround
  have t2 : ((L.getD 0 st0).toList == [115, 99, 104, 101, 109, 101]) = true := by rw [str_const]; exact decide_eq_true hscheme
  have HE : Hid (putE n L = rdE false (L.drop 1)) := by unfold Hid putE; rw [if_neg (by omega), if_neg hlimit, if_neg hround, if_pos hscheme]
  have HV : Hid (putV ⟨sch, cts, kds, lim, rnd⟩ L = ⟨sch ++ [rdL false (L.drop 1)], cts, kds, lim, rnd⟩) := by unfold Hid putV; rw [if_neg hlimit, if_neg hround, if_pos hscheme]
  obtain ⟨b, off, rfl, hlt, hat⟩ := hl.2.2 (by omega)
  have c0 := hat 0 (by omega) 0 _ rfl
  have c1 := hat 1 (by omega) 0 _ rfl
  simp only [Nat.zero_mul, Nat.add_zero, Nat.one_mul] at c0 c1
  have hz0 := hs 0 (by omega)
  have hz1 := hs 1 (by omega)
  have HL := Lib.hid hl
  have HSZ := Lib.hid hs
  have HSD : Hid (∀ k, k < n - 1 → ((L.drop 1).getD k st0).size ≤ 1000000) := fun k hk => by
    rw [getD_drop L 1 k]; exact hs _ (by omega)
  have HM := Lib.hid hm
  have HT := Lib.hid ht
  have HB0 := Lib.hid (bA (below1 w (.cells #[.slice As ns cs, .slice Ac nc cc, .slice Ak nk ck, .int .i64 lim, .int .i64 rnd] 26)) (.cells #[.slice none 0 0, .slice none 0 0, .slice none 0 0, .int .i64 0, .int .i64 0] 26))
  have KC : Hid (∀ W, Below w.heap.size w W → Calls Tryz.prog 12 #[.agg #[.slice As ns cs, .slice Ac nc cc, .slice Ak nk ck, .int .i64 lim, .int .i64 rnd]] W (CloneR sch cts kds ns nc nk lim rnd W)) := fun W hW => tclone_c sch cts kds As Ac Ak ns cs nc cc nk ck lim rnd W (hS.below hW) (hC.below hW) (hK.below hW) hn hb
  have x1 := (Blk.mk w 26 #[.slice As ns cs, .slice Ac nc cc, .slice Ak nk ck, .int .i64 lim, .int .i64 rnd]).alloc (.cells #[.slice none 0 0, .slice none 0 0, .slice none 0 0, .int .i64 0, .int .i64 0] 26)
  have x2 := Blk.mk (w.alloc (.cells #[.slice As ns cs, .slice Ac nc cc, .slice Ak nk ck, .int .i64 lim, .int .i64 rnd] 26)) 26 #[.slice none 0 0, .slice none 0 0, .slice none 0 0, .int .i64 0, .int .i64 0]
  rw [World.size_alloc] at x2
  have HX1 := Lib.hid x1
  have HX2 := Lib.hid x2
  obtain ⟨hns, hnc, hnk⟩ := hn
  have HCAP := Lib.hid hc
  have HC1 : Hid (∀ W, Below w.heap.size w W → W.cell? ⟨b, off + 1, none⟩ = some (.string (L.getD 1 st0))) := fun W hW => (hW.cell (p := ⟨b, _, none⟩) hlt).trans c1
  have HC0 : Hid (∀ W, Below w.heap.size w W → W.cell? ⟨b, off, none⟩ = some (.string (L.getD 0 st0))) := fun W hW => (hW.cell (p := ⟨b, _, none⟩) hlt).trans c0
  clear hS hC hK hb hl hs hm ht x1 x2 hat c0 c1
  generalize L.getD 0 st0 = s0 at *
  have K1 : Hid (∀ W c0, Below w.heap.size w W → Calls Tryz.prog 15 #[.slice (some ⟨b, off + 1, none⟩) (n - 1) c0, .bool false] W (ReadR false (L.drop 1) (n - 1) W)) := fun W c0 hW => tread_c _ (n - 1) c0 (L.drop 1) false W (RowSl.below (HL.out.drop 1 (by omega)) hW) HSD.out (by omega) (HM.out.t hW)
  generalize L.drop 1 = LR at *
  have kk1 : (1 : Int) ≤ (n : Int) := by omega
  have kk2 : (1 : Int) < (c : Int) := by omega
  have kk3 : 1 < c := by omega
  have kk4 : n ≤ c := HCAP.out
  go_enter Tryz.func4, Tryz.ntmps4
  go_wp2_with fail
  refine (KC.out _ HB0.out).mono ?_
  rintro e w1 ⟨⟨As1, cs1, Ac1, cc1, Ak1, ck1, rfl, hO⟩, hb1⟩
  have HB1 := Lib.hid (bA (bT HB0.out hb1) (.cells #[.slice As1 ns cs1, .slice Ac1 nc cc1, .slice Ak1 nk ck1, .int .i64 lim, .int .i64 rnd] 26))
  have HO1 : Hid (OwnT w1 w.heap.size sch cts kds As1 Ac1 Ak1 ns cs1 nc cc1 nk ck1) := by
    have hz := HB0.out.size
    obtain ⟨⟨ls, e1, o1, b1⟩, ⟨lc, e2, o2, b2⟩, o3, b3⟩ := hO
    exact ⟨⟨ls, e1, own_more o1 hz, fun p hp => ⟨(b1 p hp).1, own_more (b1 p hp).2 hz⟩⟩, ⟨lc, e2, own_more o2 hz, fun p hp => ⟨⟨(b2 p hp).1.1, own_more (b2 p hp).1.2 hz⟩, (b2 p hp).2⟩⟩, own_more o3 hz, b3⟩
  have HX1a := Lib.hid ((HX1.out.t hb1).alloc (.cells #[.slice As1 ns cs1, .slice Ac1 nc cc1, .slice Ak1 nk ck1, .int .i64 lim, .int .i64 rnd] 26))
  have HX2a := Lib.hid ((HX2.out.t hb1).alloc (.cells #[.slice As1 ns cs1, .slice Ac1 nc cc1, .slice Ak1 nk ck1, .int .i64 lim, .int .i64 rnd] 26))
  have HX3a := Lib.hid (Blk.mk w1 26 #[.slice As1 ns cs1, .slice Ac1 nc cc1, .slice Ak1 nk ck1, .int .i64 lim, .int .i64 rnd])
  have HOa := Lib.hid (HO1.out.below (below1 w1 (.cells #[.slice As1 ns cs1, .slice Ac1 nc cc1, .slice Ak1 nk ck1, .int .i64 lim, .int .i64 rnd] 26)))
  have hz1' := (bT HB0.out hb1).size
  have hb1s := hb1.size
  have hw2 : w.heap.size + 1 + 1 ≤ w1.heap.size := by simpa using hb1s
  have ne1 : ¬ w.heap.size = w1.heap.size := by omega
  have ne2 : ¬ w1.heap.size = w.heap.size := by omega
  have ne3 : ¬ w.heap.size + 1 = w1.heap.size := by omega
  have ne4 : ¬ w1.heap.size = w.heap.size + 1 := by omega
  have q0 := HC0.out _ HB1.out
  have q1 := HC1.out _ HB1.out
  clear hO hb1 hb1s
  go_wp2_with fail
  refine (K1.out _ _ HB1.out).mono ?_
  rintro e w2 ⟨hr, hb2⟩
  have HBc := Lib.hid (bT HB1.out hb2)
  have HX1c := Lib.hid (HX1a.out.t hb2)
  have HX2c := Lib.hid (HX2a.out.t hb2)
  have HX3c := Lib.hid (HX3a.out.t hb2)
  have HOc := Lib.hid (HOa.out.below hb2)
  have hs2 := HBc.out.size
  have hs1 := HB1.out.size
  clear hb2 q0 q1
  obtain ⟨row, ho, hk⟩ := HOc.out.app_s
  have HROW := Lib.hid ho
  have HKK := Lib.hid hk
  clear ho hk
  obtain ⟨⟨u0, u1, u2, u3, u4⟩, g0, g1, g2, g3, g4⟩ := HX3c.out.a5g
  rcases hr with ⟨h0, v, rfl, hv⟩ | ⟨h0, rfl⟩
  · obtain ⟨Am, cm, rfl⟩ := own_slice hv.2
    have HVV : Hid (OwnB w2 w.heap.size (.slice Am (n - 1) cm) (n - 1) (rdL false LR)) := ⟨hv.1, own_more hv.2 hs1⟩
    have HE0 := Lib.hid (HE.out.trans h0)
    clear h0 hv
    go_wp2_with (at_builtin; refine wpList_app1 _ rfl _ _ 22 rfl 42 _ 1 24 Tryz.underlying22 info_bands rfl (by decide) rfl HROW.out _ rfl (by first | rfl | simp) rfl (by simp [Value.oneCell']) (by omega) (by omega) (by first | omega | (simp; omega)) ?_; intro v' w6 ho' hg; obtain ⟨A6, c6, rfl⟩ := own_slice ho'; have HX1d := Lib.hid (HX1c.out.grown hg (own_blk HROW.out HX1c.out (by decide))); have HX2d := Lib.hid (HX2c.out.grown hg (own_blk HROW.out HX2c.out (by decide))); have HX3d := Lib.hid (HX3c.out.grown hg (own_blk HROW.out HX3c.out (by decide))); have HBd := Lib.hid (bP HBc.out HROW.out hg (Nat.le_refl _)); obtain ⟨⟨u0, u1, u2, u3, u4⟩, g0, g1, g2, g3, g4⟩ := HX3d.out.a5g; obtain ⟨⟨z0, z1, z2, z3, z4⟩, f0, f1, f2, f3, f4⟩ := HX2d.out.a5g; obtain ⟨⟨y0, y1, y2, y3, y4⟩, _⟩ := HX1d.out.a5g; have HO6 := Lib.hid ho'; have HG6 := Lib.hid hg; clear ho' hg)
    have HOd := Lib.hid (HKK.out w6 _ Am (n - 1) cm A6 c6 HVV.out HO6.out HG6.out)
    go_wp2_with fail
    refine bodyPost_ret (v := .tuple #[.agg #[.slice A6 (ns + 1) c6, .slice Ac1 nc cc1, .slice Ak1 nk ck1, .int .i64 lim, .int .i64 rnd], .int .i64 0]) (by simp [results, Tryz.results4, go_sem, z0, z1, z2, z3, z4]) rfl (put_yes HE0.out HV.out ?_ ?_)
    · exact (OwnT.setO HOd.out HX3d.out 0 _).set5 (HX2d.out.setO ne3 0 _) _ _ _ _ _
    · have h6 : Below w.heap.size w (w6.setCell ⟨w1.heap.size, 0, none⟩ (.slice A6 (ns + 1) c6)) := bS HBd.out hz1' _
      exact bS5s h6 (Nat.le_succ _) _ _ _ _ _
  · have HNZ := Lib.hid h0
    have v4 : (rdE false LR != 0) = true := by simpa using h0
    clear h0
    go_wp2_with (at_builtin; refine wpList_app1 _ rfl _ _ 22 rfl 42 _ 1 24 Tryz.underlying22 info_bands rfl (by decide) rfl HROW.out _ rfl (by first | rfl | simp) rfl (by simp [Value.oneCell']) (by omega) (by omega) (by first | omega | (simp; omega)) ?_; intro v' w6 ho' hg; obtain ⟨A6, c6, rfl⟩ := own_slice ho'; have HX1d := Lib.hid (HX1c.out.grown hg (own_blk HROW.out HX1c.out (by decide))); have HX2d := Lib.hid (HX2c.out.grown hg (own_blk HROW.out HX2c.out (by decide))); have HX3d := Lib.hid (HX3c.out.grown hg (own_blk HROW.out HX3c.out (by decide))); have HBd := Lib.hid (bP HBc.out HROW.out hg (Nat.le_refl _)); obtain ⟨⟨u0, u1, u2, u3, u4⟩, g0, g1, g2, g3, g4⟩ := HX3d.out.a5g; obtain ⟨⟨z0, z1, z2, z3, z4⟩, f0, f1, f2, f3, f4⟩ := HX2d.out.a5g; obtain ⟨⟨y0, y1, y2, y3, y4⟩, _⟩ := HX1d.out.a5g; have HO6 := Lib.hid ho'; have HG6 := Lib.hid hg; clear ho' hg)
    go_wp2_with fail
    refine bodyPost_ret (v := .tuple #[.agg #[.slice As ns cs, .slice Ac nc cc, .slice Ak nk ck, .int .i64 lim, .int .i64 rnd], .int .i64 (rdE false LR)]) (by simp [results, Tryz.results4, go_sem, z0, z1, z2, z3, z4]) rfl (put_no (t := ⟨sch, cts, kds, lim, rnd⟩) HE.out HNZ.out ?_)
    have h6 : Below w.heap.size w (w6.setCell ⟨w1.heap.size, 0, none⟩ (.slice A6 (ns + 1) c6)) := bS HBd.out hz1' _
    exact bS5s h6 (Nat.le_succ _) _ _ _ _ _
--%%
set_option maxRecDepth 100000 in
set_option maxHeartbeats 6400000 in
theorem tput_contrib (sch : List (List Bd)) (cts : List Ct) (kds : List Kd) (As Ac Ak : Option Addr) (ns cs nc cc nk ck : Nat) (lim rnd : Int) (A : Option Addr) (n c : Nat) (L : List ByteArray) (w : World) (hS : ScSl w As ns sch) (hC : CtSl w Ac nc cts) (hK : KdSl w Ak nk kds) (hn : ns ≤ 100000 ∧ nc ≤ 100000 ∧ nk ≤ 100000) (hb : (∀ k, k < ns → (sch.getD k []).length ≤ 100000) ∧ (∀ k, k < nc → (cts.getD k ct0).bands.length ≤ 100000)) (hl : StSl w A n L) (hc : n ≤ c) (hs : ∀ k, k < n → (L.getD k st0).size ≤ 1000000) (hn2 : n ≤ 1000) (hm : ML w) (ht : TabS w) (h2 : 2 ≤ n) (hlimit : ¬ L.getD 0 st0 = ⟨#[108, 105, 109, 105, 116]⟩) (hround : ¬ L.getD 0 st0 = ⟨#[114, 111, 117, 110, 100]⟩) (hscheme : ¬ L.getD 0 st0 = ⟨#[115, 99, 104, 101, 109, 101]⟩) (hcontrib : L.getD 0 st0 = ⟨#[99, 111, 110, 116, 114, 105, 98]⟩) : Calls Tryz.prog 4 #[.agg #[.slice As ns cs, .slice Ac nc cc, .slice Ak nk ck, .int .i64 lim, .int .i64 rnd], .slice A n c] w (PutR ⟨sch, cts, kds, lim, rnd⟩ As Ac Ak ns cs nc cc nk ck n L w) := by
  have v2 : decide ((n : Int) < 2) = false := by simp; omega
  have t0 : ((L.getD 0 st0).toList == [108, 105, 109, 105, 116]) = false := by rw [str_const]; exact decide_eq_false hlimit
  have t1 : ((L.getD 0 st0).toList == [114, 111, 117, 110, 100]) = false := by rw [str_const]; exact decide_eq_false hround
  have t2 : ((L.getD 0 st0).toList == [115, 99, 104, 101, 109, 101]) = false := by rw [str_const]; exact decide_eq_false hscheme
  have t3 : ((L.getD 0 st0).toList == [99, 111, 110, 116, 114, 105, 98]) = true := by rw [str_const]; exact decide_eq_true hcontrib
  have HE : Hid (putE n L = cwE (n - 1) (L.drop 1)) := by unfold Hid putE; rw [if_neg (by omega), if_neg hlimit, if_neg hround, if_neg hscheme, if_pos hcontrib]
  have HV : Hid (putV ⟨sch, cts, kds, lim, rnd⟩ L = ⟨sch, cts ++ [cwV (L.drop 1)], kds, lim, rnd⟩) := by unfold Hid putV; rw [if_neg hlimit, if_neg hround, if_neg hscheme, if_pos hcontrib]
  obtain ⟨b, off, rfl, hlt, hat⟩ := hl.2.2 (by omega)
  have c0 := hat 0 (by omega) 0 _ rfl
  have c1 := hat 1 (by omega) 0 _ rfl
  simp only [Nat.zero_mul, Nat.add_zero, Nat.one_mul] at c0 c1
  have hz0 := hs 0 (by omega)
  have hz1 := hs 1 (by omega)
  have HL := Lib.hid hl
  have HSZ := Lib.hid hs
  have HSD : Hid (∀ k, k < n - 1 → ((L.drop 1).getD k st0).size ≤ 1000000) := fun k hk => by
    rw [getD_drop L 1 k]; exact hs _ (by omega)
  have HM := Lib.hid hm
  have HT := Lib.hid ht
  have HB0 := Lib.hid (bA (below1 w (.cells #[.slice As ns cs, .slice Ac nc cc, .slice Ak nk ck, .int .i64 lim, .int .i64 rnd] 26)) (.cells #[.slice none 0 0, .slice none 0 0, .slice none 0 0, .int .i64 0, .int .i64 0] 26))
  have KC : Hid (∀ W, Below w.heap.size w W → Calls Tryz.prog 12 #[.agg #[.slice As ns cs, .slice Ac nc cc, .slice Ak nk ck, .int .i64 lim, .int .i64 rnd]] W (CloneR sch cts kds ns nc nk lim rnd W)) := fun W hW => tclone_c sch cts kds As Ac Ak ns cs nc cc nk ck lim rnd W (hS.below hW) (hC.below hW) (hK.below hW) hn hb
  have x1 := (Blk.mk w 26 #[.slice As ns cs, .slice Ac nc cc, .slice Ak nk ck, .int .i64 lim, .int .i64 rnd]).alloc (.cells #[.slice none 0 0, .slice none 0 0, .slice none 0 0, .int .i64 0, .int .i64 0] 26)
  have x2 := Blk.mk (w.alloc (.cells #[.slice As ns cs, .slice Ac nc cc, .slice Ak nk ck, .int .i64 lim, .int .i64 rnd] 26)) 26 #[.slice none 0 0, .slice none 0 0, .slice none 0 0, .int .i64 0, .int .i64 0]
  rw [World.size_alloc] at x2
  have HX1 := Lib.hid x1
  have HX2 := Lib.hid x2
  obtain ⟨hns, hnc, hnk⟩ := hn
  have HCAP := Lib.hid hc
  have HC1 : Hid (∀ W, Below w.heap.size w W → W.cell? ⟨b, off + 1, none⟩ = some (.string (L.getD 1 st0))) := fun W hW => (hW.cell (p := ⟨b, _, none⟩) hlt).trans c1
  have HC0 : Hid (∀ W, Below w.heap.size w W → W.cell? ⟨b, off, none⟩ = some (.string (L.getD 0 st0))) := fun W hW => (hW.cell (p := ⟨b, _, none⟩) hlt).trans c0
  clear hS hC hK hb hl hs hm ht x1 x2 hat c0 c1
  generalize L.getD 0 st0 = s0 at *
  have K1 : Hid (∀ W c0, n - 1 ≤ c0 → Below w.heap.size w W → TabS W → Calls Tryz.prog 16 #[.slice (some ⟨b, off + 1, none⟩) (n - 1) c0] W (ContribR (n - 1) (L.drop 1) W)) := fun W c0 h hW htt => tcontrib_c _ (n - 1) c0 (L.drop 1) W (RowSl.below (HL.out.drop 1 (by omega)) hW) h HSD.out (by omega) (HM.out.t hW) htt
  have HZN : Hid (((L.drop 1).getD 0 st0).size ≤ 9223372036854775807) := by unfold Hid; rw [getD_drop L 1 0]; show (L.getD 1 st0).size ≤ _; omega
  generalize L.drop 1 = LR at *
  obtain ⟨⟨nm, bs, bands, pc, yc, rd⟩, hz⟩ : ∃ z, cwV LR = z := ⟨_, rfl⟩
  have K2 : Hid (∀ W c0, n - 1 ≤ c0 → Below w.heap.size w W → TabS W → Calls Tryz.prog 16 #[.slice (some ⟨b, off + 1, none⟩) (n - 1) c0] W (ContribQ nm bs bands pc yc rd (cwE (n - 1) LR) W)) := fun W c0 h1 h2 h3 => (K1.out W c0 h1 h2 h3).mono (fun e w' h => contribQ hz h)
  rw [hz] at HV
  have HZ2 : Hid (nm.size ≤ 9223372036854775807) := by
    have h1 : (LR.getD 0 st0) = nm := congrArg Ct.nm hz
    unfold Hid; rw [← h1]; exact HZN.out
  generalize cwE (n - 1) LR = er at *
  clear K1 hz
  have kk1 : (1 : Int) ≤ (n : Int) := by omega
  have kk2 : (1 : Int) < (c : Int) := by omega
  have kk3 : 1 < c := by omega
  have kk4 : n ≤ c := HCAP.out
  go_enter Tryz.func4, Tryz.ntmps4
  go_wp2_with fail
  refine (KC.out _ HB0.out).mono ?_
  rintro e w1 ⟨⟨As1, cs1, Ac1, cc1, Ak1, ck1, rfl, hO⟩, hb1⟩
  have HB1 := Lib.hid (bA (bT HB0.out hb1) (.cells #[.slice As1 ns cs1, .slice Ac1 nc cc1, .slice Ak1 nk ck1, .int .i64 lim, .int .i64 rnd] 26))
  have HO1 : Hid (OwnT w1 w.heap.size sch cts kds As1 Ac1 Ak1 ns cs1 nc cc1 nk ck1) := by
    have hz := HB0.out.size
    obtain ⟨⟨ls, e1, o1, b1⟩, ⟨lc, e2, o2, b2⟩, o3, b3⟩ := hO
    exact ⟨⟨ls, e1, own_more o1 hz, fun p hp => ⟨(b1 p hp).1, own_more (b1 p hp).2 hz⟩⟩, ⟨lc, e2, own_more o2 hz, fun p hp => ⟨⟨(b2 p hp).1.1, own_more (b2 p hp).1.2 hz⟩, (b2 p hp).2⟩⟩, own_more o3 hz, b3⟩
  have HX1a := Lib.hid ((HX1.out.t hb1).alloc (.cells #[.slice As1 ns cs1, .slice Ac1 nc cc1, .slice Ak1 nk ck1, .int .i64 lim, .int .i64 rnd] 26))
  have HX2a := Lib.hid ((HX2.out.t hb1).alloc (.cells #[.slice As1 ns cs1, .slice Ac1 nc cc1, .slice Ak1 nk ck1, .int .i64 lim, .int .i64 rnd] 26))
  have HX3a := Lib.hid (Blk.mk w1 26 #[.slice As1 ns cs1, .slice Ac1 nc cc1, .slice Ak1 nk ck1, .int .i64 lim, .int .i64 rnd])
  have HOa := Lib.hid (HO1.out.below (below1 w1 (.cells #[.slice As1 ns cs1, .slice Ac1 nc cc1, .slice Ak1 nk ck1, .int .i64 lim, .int .i64 rnd] 26)))
  have hz1' := (bT HB0.out hb1).size
  have hb1s := hb1.size
  have hw2 : w.heap.size + 1 + 1 ≤ w1.heap.size := by simpa using hb1s
  have ne1 : ¬ w.heap.size = w1.heap.size := by omega
  have ne2 : ¬ w1.heap.size = w.heap.size := by omega
  have ne3 : ¬ w.heap.size + 1 = w1.heap.size := by omega
  have ne4 : ¬ w1.heap.size = w.heap.size + 1 := by omega
  have q0 := HC0.out _ HB1.out
  have q1 := HC1.out _ HB1.out
  clear hO hb1 hb1s
  have HB1z := Lib.hid (bA HB1.out (.cells #[.string ⟨#[]⟩, .int .i64 0, .slice none 0 0, .int .i64 0, .int .i64 0, .int .i64 0] 46))
  have HTZ := Lib.hid (HT.out.t HB1z.out)
  go_wp2_with fail
  refine (K2.out _ _ (by omega) HB1z.out HTZ.out).mono ?_
  rintro e w2 ⟨hr, hb2⟩
  have HBb := Lib.hid (bT HB1z.out hb2)
  have HX1b := Lib.hid ((HX1a.out.alloc (.cells #[.string ⟨#[]⟩, .int .i64 0, .slice none 0 0, .int .i64 0, .int .i64 0, .int .i64 0] 46)).t hb2)
  have HX2b := Lib.hid ((HX2a.out.alloc (.cells #[.string ⟨#[]⟩, .int .i64 0, .slice none 0 0, .int .i64 0, .int .i64 0, .int .i64 0] 46)).t hb2)
  have HX3b := Lib.hid ((HX3a.out.alloc (.cells #[.string ⟨#[]⟩, .int .i64 0, .slice none 0 0, .int .i64 0, .int .i64 0, .int .i64 0] 46)).t hb2)
  have y := Blk.mk (w1.alloc (.cells #[.slice As1 ns cs1, .slice Ac1 nc cc1, .slice Ak1 nk ck1, .int .i64 lim, .int .i64 rnd] 26)) 46 #[.string ⟨#[]⟩, .int .i64 0, .slice none 0 0, .int .i64 0, .int .i64 0, .int .i64 0]
  rw [World.size_alloc] at y
  have HXZ := Lib.hid (y.t hb2)
  have HOb := Lib.hid ((HOa.out.below (below1 _ (.cells #[.string ⟨#[]⟩, .int .i64 0, .slice none 0 0, .int .i64 0, .int .i64 0, .int .i64 0] 46))).below hb2)
  have hs2 := HBb.out.size
  have hs1 := HB1z.out.size
  have HBQ := Lib.hid hb2
  clear hb2 q0 q1 y
  rcases hr with ⟨h0, Am, m, cm, rfl, hv⟩ | ⟨h0, rfl⟩
  · have HE0 := Lib.hid (HE.out.trans h0)
    have HVb : Hid (OwnB w2 w.heap.size (.slice Am m cm) m bands) := ⟨hv.1, own_more hv.2 hs1⟩
    clear h0 hv
    obtain ⟨⟨r0, r1, r2, r3, r4, r5⟩, d0, d1, d2, d3, d4, d5⟩ := HXZ.out.a6g
    have HBN : Hid (Below (w1.alloc (.cells #[.slice As1 ns cs1, .slice Ac1 nc cc1, .slice Ak1 nk ck1, .int .i64 lim, .int .i64 rnd] 26)).heap.size (w1.alloc (.cells #[.slice As1 ns cs1, .slice Ac1 nc cc1, .slice Ak1 nk ck1, .int .i64 lim, .int .i64 rnd] 26)) ((((((w2.setCell ⟨w1.heap.size + 1, 0, none⟩ (.string nm)).setCell ⟨w1.heap.size + 1, 1, none⟩ (.int .i64 bs)).setCell ⟨w1.heap.size + 1, 2, none⟩ (.slice Am m cm)).setCell ⟨w1.heap.size + 1, 3, none⟩ (.int .i64 pc)).setCell ⟨w1.heap.size + 1, 4, none⟩ (.int .i64 yc)).setCell ⟨w1.heap.size + 1, 5, none⟩ (.int .i64 rd))) := bS6 (bT (below1 _ _) HBQ.out) (by simp) _ _ _ _ _ _
    have HXW : Hid (Blk ((((((w2.setCell ⟨w1.heap.size + 1, 0, none⟩ (.string nm)).setCell ⟨w1.heap.size + 1, 1, none⟩ (.int .i64 bs)).setCell ⟨w1.heap.size + 1, 2, none⟩ (.slice Am m cm)).setCell ⟨w1.heap.size + 1, 3, none⟩ (.int .i64 pc)).setCell ⟨w1.heap.size + 1, 4, none⟩ (.int .i64 yc)).setCell ⟨w1.heap.size + 1, 5, none⟩ (.int .i64 rd)) (w1.heap.size + 1) 46 #[.string nm, .int .i64 bs, .slice Am m cm, .int .i64 pc, .int .i64 yc, .int .i64 rd]) := HXZ.out.set6 _ _ _ _ _ _
    have HX1c := Lib.hid (HX1a.out.t HBN.out)
    have HX2c := Lib.hid (HX2a.out.t HBN.out)
    have HX3c := Lib.hid (HX3a.out.t HBN.out)
    have HBc := Lib.hid (bT HB1.out HBN.out)
    have HOc := Lib.hid (HOa.out.below HBN.out)
    have hsc := HBc.out.size
    obtain ⟨row, ho, hk⟩ := HOc.out.app_c
    have HROW := Lib.hid ho
    have HKK := Lib.hid hk
    clear ho hk
    obtain ⟨⟨u0, u1, u2, u3, u4⟩, g0, g1, g2, g3, g4⟩ := HX3c.out.a5g
    obtain ⟨s10, s11, s12, s13, s14, s15⟩ := HXW.out.a6g.1
    have HVV : Hid (OwnB ((((((w2.setCell ⟨w1.heap.size + 1, 0, none⟩ (.string nm)).setCell ⟨w1.heap.size + 1, 1, none⟩ (.int .i64 bs)).setCell ⟨w1.heap.size + 1, 2, none⟩ (.slice Am m cm)).setCell ⟨w1.heap.size + 1, 3, none⟩ (.int .i64 pc)).setCell ⟨w1.heap.size + 1, 4, none⟩ (.int .i64 yc)).setCell ⟨w1.heap.size + 1, 5, none⟩ (.int .i64 rd)) w.heap.size (.slice Am m cm) m bands) := ⟨HVb.out.1, own_set6 HVb.out.2 HXZ.out (by decide) _ _ _ _ _ _⟩
    go_upto_region 19 with fail
    clear r0 r1 r2 r3 r4 r5
    generalize ((((((w2.setCell ⟨w1.heap.size + 1, 0, none⟩ (.string nm)).setCell ⟨w1.heap.size + 1, 1, none⟩ (.int .i64 bs)).setCell ⟨w1.heap.size + 1, 2, none⟩ (.slice Am m cm)).setCell ⟨w1.heap.size + 1, 3, none⟩ (.int .i64 pc)).setCell ⟨w1.heap.size + 1, 4, none⟩ (.int .i64 yc)).setCell ⟨w1.heap.size + 1, 5, none⟩ (.int .i64 rd)) = wc at *
    go_wp2_with (at_builtin; refine wpList_app1 _ rfl _ _ 23 rfl 46 _ 6 72 Tryz.underlying23 info_contrib rfl (by decide) rfl HROW.out _ rfl (by first | rfl | simp) rfl (by simp [Value.oneCell']) (by omega) (by omega) (by first | omega | (simp; omega)) ?_; intro v' w6 ho' hg; obtain ⟨A6, c6, rfl⟩ := own_slice ho'; have HX1d := Lib.hid (HX1c.out.grown hg (own_blk HROW.out HX1c.out (by decide))); have HX2d := Lib.hid (HX2c.out.grown hg (own_blk HROW.out HX2c.out (by decide))); have HX3d := Lib.hid (HX3c.out.grown hg (own_blk HROW.out HX3c.out (by decide))); have HBd := Lib.hid (bP HBc.out HROW.out hg (Nat.le_refl _)); obtain ⟨⟨u0, u1, u2, u3, u4⟩, g0, g1, g2, g3, g4⟩ := HX3d.out.a5g; obtain ⟨⟨z0, z1, z2, z3, z4⟩, f0, f1, f2, f3, f4⟩ := HX2d.out.a5g; obtain ⟨⟨y0, y1, y2, y3, y4⟩, _⟩ := HX1d.out.a5g; have HO6 := Lib.hid ho'; have HG6 := Lib.hid hg; clear ho' hg)
    have HOd := Lib.hid (HKK.out w6 ⟨nm, bs, bands, pc, yc, rd⟩ Am m cm A6 c6 HVV.out HZ2.out (by simpa [ctPC] using HO6.out) HG6.out)
    go_wp2_with fail
    refine bodyPost_ret (v := .tuple #[.agg #[.slice As1 ns cs1, .slice A6 (nc + 1) c6, .slice Ak1 nk ck1, .int .i64 lim, .int .i64 rnd], .int .i64 0]) (by simp [results, Tryz.results4, go_sem, z0, z1, z2, z3, z4]) rfl (put_yes HE0.out HV.out ?_ ?_)
    · exact (OwnT.setO HOd.out HX3d.out 1 _).set5 (HX2d.out.setO ne3 1 _) _ _ _ _ _
    · have h6 : Below w.heap.size w (w6.setCell ⟨w1.heap.size, 1, none⟩ (.slice A6 (nc + 1) c6)) := bS HBd.out hz1' _
      exact bS5s h6 (Nat.le_succ _) _ _ _ _ _
  · have HNZ := Lib.hid h0
    have v4 : (er != 0) = true := by simpa using h0
    clear h0
    obtain ⟨⟨r0, r1, r2, r3, r4, r5⟩, d0, d1, d2, d3, d4, d5⟩ := HXZ.out.a6g
    have HBN : Hid (Below (w1.alloc (.cells #[.slice As1 ns cs1, .slice Ac1 nc cc1, .slice Ak1 nk ck1, .int .i64 lim, .int .i64 rnd] 26)).heap.size (w1.alloc (.cells #[.slice As1 ns cs1, .slice Ac1 nc cc1, .slice Ak1 nk ck1, .int .i64 lim, .int .i64 rnd] 26)) ((((((w2.setCell ⟨w1.heap.size + 1, 0, none⟩ (.string ⟨#[]⟩)).setCell ⟨w1.heap.size + 1, 1, none⟩ (.int .i64 0)).setCell ⟨w1.heap.size + 1, 2, none⟩ (.slice none 0 0)).setCell ⟨w1.heap.size + 1, 3, none⟩ (.int .i64 0)).setCell ⟨w1.heap.size + 1, 4, none⟩ (.int .i64 0)).setCell ⟨w1.heap.size + 1, 5, none⟩ (.int .i64 0))) := bS6 (bT (below1 _ _) HBQ.out) (by simp) _ _ _ _ _ _
    have HXW : Hid (Blk ((((((w2.setCell ⟨w1.heap.size + 1, 0, none⟩ (.string ⟨#[]⟩)).setCell ⟨w1.heap.size + 1, 1, none⟩ (.int .i64 0)).setCell ⟨w1.heap.size + 1, 2, none⟩ (.slice none 0 0)).setCell ⟨w1.heap.size + 1, 3, none⟩ (.int .i64 0)).setCell ⟨w1.heap.size + 1, 4, none⟩ (.int .i64 0)).setCell ⟨w1.heap.size + 1, 5, none⟩ (.int .i64 0)) (w1.heap.size + 1) 46 #[.string ⟨#[]⟩, .int .i64 0, .slice none 0 0, .int .i64 0, .int .i64 0, .int .i64 0]) := HXZ.out.set6 _ _ _ _ _ _
    have HX1c := Lib.hid (HX1a.out.t HBN.out)
    have HX2c := Lib.hid (HX2a.out.t HBN.out)
    have HX3c := Lib.hid (HX3a.out.t HBN.out)
    have HBc := Lib.hid (bT HB1.out HBN.out)
    have HOc := Lib.hid (HOa.out.below HBN.out)
    have hsc := HBc.out.size
    obtain ⟨row, ho, hk⟩ := HOc.out.app_c
    have HROW := Lib.hid ho
    have HKK := Lib.hid hk
    clear ho hk
    obtain ⟨⟨u0, u1, u2, u3, u4⟩, g0, g1, g2, g3, g4⟩ := HX3c.out.a5g
    obtain ⟨s10, s11, s12, s13, s14, s15⟩ := HXW.out.a6g.1
    go_upto_region 19 with fail
    clear r0 r1 r2 r3 r4 r5
    generalize ((((((w2.setCell ⟨w1.heap.size + 1, 0, none⟩ (.string ⟨#[]⟩)).setCell ⟨w1.heap.size + 1, 1, none⟩ (.int .i64 0)).setCell ⟨w1.heap.size + 1, 2, none⟩ (.slice none 0 0)).setCell ⟨w1.heap.size + 1, 3, none⟩ (.int .i64 0)).setCell ⟨w1.heap.size + 1, 4, none⟩ (.int .i64 0)).setCell ⟨w1.heap.size + 1, 5, none⟩ (.int .i64 0)) = wc at *
    go_wp2_with (at_builtin; refine wpList_app1 _ rfl _ _ 23 rfl 46 _ 6 72 Tryz.underlying23 info_contrib rfl (by decide) rfl HROW.out _ rfl (by first | rfl | simp) rfl (by simp [Value.oneCell']) (by omega) (by omega) (by first | omega | (simp; omega)) ?_; intro v' w6 ho' hg; obtain ⟨A6, c6, rfl⟩ := own_slice ho'; have HX1d := Lib.hid (HX1c.out.grown hg (own_blk HROW.out HX1c.out (by decide))); have HX2d := Lib.hid (HX2c.out.grown hg (own_blk HROW.out HX2c.out (by decide))); have HX3d := Lib.hid (HX3c.out.grown hg (own_blk HROW.out HX3c.out (by decide))); have HBd := Lib.hid (bP HBc.out HROW.out hg (Nat.le_refl _)); obtain ⟨⟨u0, u1, u2, u3, u4⟩, g0, g1, g2, g3, g4⟩ := HX3d.out.a5g; obtain ⟨⟨z0, z1, z2, z3, z4⟩, f0, f1, f2, f3, f4⟩ := HX2d.out.a5g; obtain ⟨⟨y0, y1, y2, y3, y4⟩, _⟩ := HX1d.out.a5g; have HO6 := Lib.hid ho'; have HG6 := Lib.hid hg; clear ho' hg)
    go_wp2_with fail
    refine bodyPost_ret (v := .tuple #[.agg #[.slice As ns cs, .slice Ac nc cc, .slice Ak nk ck, .int .i64 lim, .int .i64 rnd], .int .i64 er]) (by simp [results, Tryz.results4, go_sem, z0, z1, z2, z3, z4]) rfl (put_no (t := ⟨sch, cts, kds, lim, rnd⟩) HE.out HNZ.out ?_)
    have h6 : Below w.heap.size w (w6.setCell ⟨w1.heap.size, 1, none⟩ (.slice A6 (nc + 1) c6)) := bS HBd.out hz1' _
    exact bS5s h6 (Nat.le_succ _) _ _ _ _ _
--%%
set_option maxRecDepth 100000 in
set_option maxHeartbeats 6400000 in
theorem tput_kind (sch : List (List Bd)) (cts : List Ct) (kds : List Kd) (As Ac Ak : Option Addr) (ns cs nc cc nk ck : Nat) (lim rnd : Int) (A : Option Addr) (n c : Nat) (L : List ByteArray) (w : World) (hS : ScSl w As ns sch) (hC : CtSl w Ac nc cts) (hK : KdSl w Ak nk kds) (hn : ns ≤ 100000 ∧ nc ≤ 100000 ∧ nk ≤ 100000) (hb : (∀ k, k < ns → (sch.getD k []).length ≤ 100000) ∧ (∀ k, k < nc → (cts.getD k ct0).bands.length ≤ 100000)) (hl : StSl w A n L) (hc : n ≤ c) (hs : ∀ k, k < n → (L.getD k st0).size ≤ 1000000) (hn2 : n ≤ 1000) (hm : ML w) (ht : TabS w) (h2 : 2 ≤ n) (hlimit : ¬ L.getD 0 st0 = ⟨#[108, 105, 109, 105, 116]⟩) (hround : ¬ L.getD 0 st0 = ⟨#[114, 111, 117, 110, 100]⟩) (hscheme : ¬ L.getD 0 st0 = ⟨#[115, 99, 104, 101, 109, 101]⟩) (hcontrib : ¬ L.getD 0 st0 = ⟨#[99, 111, 110, 116, 114, 105, 98]⟩) (hkind : L.getD 0 st0 = ⟨#[107, 105, 110, 100]⟩) : Calls Tryz.prog 4 #[.agg #[.slice As ns cs, .slice Ac nc cc, .slice Ak nk ck, .int .i64 lim, .int .i64 rnd], .slice A n c] w (PutR ⟨sch, cts, kds, lim, rnd⟩ As Ac Ak ns cs nc cc nk ck n L w) := by
  have v2 : decide ((n : Int) < 2) = false := by simp; omega
  have t0 : ((L.getD 0 st0).toList == [108, 105, 109, 105, 116]) = false := by rw [str_const]; exact decide_eq_false hlimit
  have t1 : ((L.getD 0 st0).toList == [114, 111, 117, 110, 100]) = false := by rw [str_const]; exact decide_eq_false hround
  have t2 : ((L.getD 0 st0).toList == [115, 99, 104, 101, 109, 101]) = false := by rw [str_const]; exact decide_eq_false hscheme
  have t3 : ((L.getD 0 st0).toList == [99, 111, 110, 116, 114, 105, 98]) = false := by rw [str_const]; exact decide_eq_false hcontrib
  have t4 : ((L.getD 0 st0).toList == [107, 105, 110, 100]) = true := by rw [str_const]; exact decide_eq_true hkind
  have HE : Hid (putE n L = kwE (n - 1) (L.drop 1)) := by unfold Hid putE; rw [if_neg (by omega), if_neg hlimit, if_neg hround, if_neg hscheme, if_neg hcontrib, if_pos hkind]
  have HV : Hid (putV ⟨sch, cts, kds, lim, rnd⟩ L = ⟨sch, cts, kds ++ [kwV (L.drop 1)], lim, rnd⟩) := by unfold Hid putV; rw [if_neg hlimit, if_neg hround, if_neg hscheme, if_neg hcontrib]
  obtain ⟨b, off, rfl, hlt, hat⟩ := hl.2.2 (by omega)
  have c0 := hat 0 (by omega) 0 _ rfl
  have c1 := hat 1 (by omega) 0 _ rfl
  simp only [Nat.zero_mul, Nat.add_zero, Nat.one_mul] at c0 c1
  have hz0 := hs 0 (by omega)
  have hz1 := hs 1 (by omega)
  have HL := Lib.hid hl
  have HSZ := Lib.hid hs
  have HSD : Hid (∀ k, k < n - 1 → ((L.drop 1).getD k st0).size ≤ 1000000) := fun k hk => by
    rw [getD_drop L 1 k]; exact hs _ (by omega)
  have HM := Lib.hid hm
  have HT := Lib.hid ht
  have HB0 := Lib.hid (bA (below1 w (.cells #[.slice As ns cs, .slice Ac nc cc, .slice Ak nk ck, .int .i64 lim, .int .i64 rnd] 26)) (.cells #[.slice none 0 0, .slice none 0 0, .slice none 0 0, .int .i64 0, .int .i64 0] 26))
  have KC : Hid (∀ W, Below w.heap.size w W → Calls Tryz.prog 12 #[.agg #[.slice As ns cs, .slice Ac nc cc, .slice Ak nk ck, .int .i64 lim, .int .i64 rnd]] W (CloneR sch cts kds ns nc nk lim rnd W)) := fun W hW => tclone_c sch cts kds As Ac Ak ns cs nc cc nk ck lim rnd W (hS.below hW) (hC.below hW) (hK.below hW) hn hb
  have x1 := (Blk.mk w 26 #[.slice As ns cs, .slice Ac nc cc, .slice Ak nk ck, .int .i64 lim, .int .i64 rnd]).alloc (.cells #[.slice none 0 0, .slice none 0 0, .slice none 0 0, .int .i64 0, .int .i64 0] 26)
  have x2 := Blk.mk (w.alloc (.cells #[.slice As ns cs, .slice Ac nc cc, .slice Ak nk ck, .int .i64 lim, .int .i64 rnd] 26)) 26 #[.slice none 0 0, .slice none 0 0, .slice none 0 0, .int .i64 0, .int .i64 0]
  rw [World.size_alloc] at x2
  have HX1 := Lib.hid x1
  have HX2 := Lib.hid x2
  obtain ⟨hns, hnc, hnk⟩ := hn
  have HCAP := Lib.hid hc
  have HC1 : Hid (∀ W, Below w.heap.size w W → W.cell? ⟨b, off + 1, none⟩ = some (.string (L.getD 1 st0))) := fun W hW => (hW.cell (p := ⟨b, _, none⟩) hlt).trans c1
  have HC0 : Hid (∀ W, Below w.heap.size w W → W.cell? ⟨b, off, none⟩ = some (.string (L.getD 0 st0))) := fun W hW => (hW.cell (p := ⟨b, _, none⟩) hlt).trans c0
  clear hS hC hK hb hl hs hm ht x1 x2 hat c0 c1
  generalize L.getD 0 st0 = s0 at *
  have K1 : Hid (∀ W c0, n - 1 ≤ c0 → Below w.heap.size w W → TabS W → Calls Tryz.prog 17 #[.slice (some ⟨b, off + 1, none⟩) (n - 1) c0] W (KindR (n - 1) (L.drop 1) W)) := fun W c0 h hW htt => tkind_c _ (n - 1) c0 (L.drop 1) W (RowSl.below (HL.out.drop 1 (by omega)) hW) h HSD.out (HM.out.t hW)
  have HZN : Hid (((L.drop 1).getD 0 st0).size ≤ 9223372036854775807) := by unfold Hid; rw [getD_drop L 1 0]; show (L.getD 1 st0).size ≤ _; omega
  generalize L.drop 1 = LR at *
  obtain ⟨⟨nm, x1, x2, x3⟩, hz⟩ : ∃ z, kwV LR = z := ⟨_, rfl⟩
  have K2 : Hid (∀ W c0, n - 1 ≤ c0 → Below w.heap.size w W → TabS W → Calls Tryz.prog 17 #[.slice (some ⟨b, off + 1, none⟩) (n - 1) c0] W (KindQ nm x1 x2 x3 (kwE (n - 1) LR) W)) := fun W c0 h1 h2 h3 => (K1.out W c0 h1 h2 h3).mono (fun e w' h => kindQ hz h)
  rw [hz] at HV
  have HZ2 : Hid (nm.size ≤ 9223372036854775807) := by
    have h1 : (LR.getD 0 st0) = nm := congrArg Kd.nm hz
    unfold Hid; rw [← h1]; exact HZN.out
  have H05 : Hid (kwE (n - 1) LR ≠ 0 → kwE (n - 1) LR = 5) := fun h => by
    unfold kwE at h ⊢
    split at h
    · exact absurd rfl h
    · rename_i hh; rw [if_neg hh]
  generalize kwE (n - 1) LR = er at *
  clear K1 hz
  have kk1 : (1 : Int) ≤ (n : Int) := by omega
  have kk2 : (1 : Int) < (c : Int) := by omega
  have kk3 : 1 < c := by omega
  have kk4 : n ≤ c := HCAP.out
  go_enter Tryz.func4, Tryz.ntmps4
  go_wp2_with fail
  refine (KC.out _ HB0.out).mono ?_
  rintro e w1 ⟨⟨As1, cs1, Ac1, cc1, Ak1, ck1, rfl, hO⟩, hb1⟩
  have HB1 := Lib.hid (bA (bT HB0.out hb1) (.cells #[.slice As1 ns cs1, .slice Ac1 nc cc1, .slice Ak1 nk ck1, .int .i64 lim, .int .i64 rnd] 26))
  have HO1 : Hid (OwnT w1 w.heap.size sch cts kds As1 Ac1 Ak1 ns cs1 nc cc1 nk ck1) := by
    have hz := HB0.out.size
    obtain ⟨⟨ls, e1, o1, b1⟩, ⟨lc, e2, o2, b2⟩, o3, b3⟩ := hO
    exact ⟨⟨ls, e1, own_more o1 hz, fun p hp => ⟨(b1 p hp).1, own_more (b1 p hp).2 hz⟩⟩, ⟨lc, e2, own_more o2 hz, fun p hp => ⟨⟨(b2 p hp).1.1, own_more (b2 p hp).1.2 hz⟩, (b2 p hp).2⟩⟩, own_more o3 hz, b3⟩
  have HX1a := Lib.hid ((HX1.out.t hb1).alloc (.cells #[.slice As1 ns cs1, .slice Ac1 nc cc1, .slice Ak1 nk ck1, .int .i64 lim, .int .i64 rnd] 26))
  have HX2a := Lib.hid ((HX2.out.t hb1).alloc (.cells #[.slice As1 ns cs1, .slice Ac1 nc cc1, .slice Ak1 nk ck1, .int .i64 lim, .int .i64 rnd] 26))
  have HX3a := Lib.hid (Blk.mk w1 26 #[.slice As1 ns cs1, .slice Ac1 nc cc1, .slice Ak1 nk ck1, .int .i64 lim, .int .i64 rnd])
  have HOa := Lib.hid (HO1.out.below (below1 w1 (.cells #[.slice As1 ns cs1, .slice Ac1 nc cc1, .slice Ak1 nk ck1, .int .i64 lim, .int .i64 rnd] 26)))
  have hz1' := (bT HB0.out hb1).size
  have hb1s := hb1.size
  have hw2 : w.heap.size + 1 + 1 ≤ w1.heap.size := by simpa using hb1s
  have ne1 : ¬ w.heap.size = w1.heap.size := by omega
  have ne2 : ¬ w1.heap.size = w.heap.size := by omega
  have ne3 : ¬ w.heap.size + 1 = w1.heap.size := by omega
  have ne4 : ¬ w1.heap.size = w.heap.size + 1 := by omega
  have q0 := HC0.out _ HB1.out
  have q1 := HC1.out _ HB1.out
  clear hO hb1 hb1s
  have HB1z := Lib.hid (bA HB1.out (.cells #[.string ⟨#[]⟩, .int .i64 0, .int .i64 0, .int .i64 0] 56))
  have HTZ := Lib.hid (HT.out.t HB1z.out)
  go_wp2_with fail
  refine (K2.out _ _ (by omega) HB1z.out HTZ.out).mono ?_
  rintro e w2 ⟨hr, hb2⟩
  have HBb := Lib.hid (bT HB1z.out hb2)
  have HX1b := Lib.hid ((HX1a.out.alloc (.cells #[.string ⟨#[]⟩, .int .i64 0, .int .i64 0, .int .i64 0] 56)).t hb2)
  have HX2b := Lib.hid ((HX2a.out.alloc (.cells #[.string ⟨#[]⟩, .int .i64 0, .int .i64 0, .int .i64 0] 56)).t hb2)
  have HX3b := Lib.hid ((HX3a.out.alloc (.cells #[.string ⟨#[]⟩, .int .i64 0, .int .i64 0, .int .i64 0] 56)).t hb2)
  have y := Blk.mk (w1.alloc (.cells #[.slice As1 ns cs1, .slice Ac1 nc cc1, .slice Ak1 nk ck1, .int .i64 lim, .int .i64 rnd] 26)) 56 #[.string ⟨#[]⟩, .int .i64 0, .int .i64 0, .int .i64 0]
  rw [World.size_alloc] at y
  have HXZ := Lib.hid (y.t hb2)
  have HOb := Lib.hid ((HOa.out.below (below1 _ (.cells #[.string ⟨#[]⟩, .int .i64 0, .int .i64 0, .int .i64 0] 56))).below hb2)
  have hs2 := HBb.out.size
  have hs1 := HB1z.out.size
  have HBQ := Lib.hid hb2
  clear hb2 q0 q1 y
  rcases hr with ⟨h0, rfl⟩ | ⟨h0, rfl⟩
  · have HE0 := Lib.hid (HE.out.trans h0)
    clear h0
    obtain ⟨⟨r0, r1, r2, r3⟩, d0, d1, d2, d3⟩ := HXZ.out.a4g
    have HBN : Hid (Below (w1.alloc (.cells #[.slice As1 ns cs1, .slice Ac1 nc cc1, .slice Ak1 nk ck1, .int .i64 lim, .int .i64 rnd] 26)).heap.size (w1.alloc (.cells #[.slice As1 ns cs1, .slice Ac1 nc cc1, .slice Ak1 nk ck1, .int .i64 lim, .int .i64 rnd] 26)) ((((w2.setCell ⟨w1.heap.size + 1, 0, none⟩ (.string nm)).setCell ⟨w1.heap.size + 1, 1, none⟩ (.int .i64 x1)).setCell ⟨w1.heap.size + 1, 2, none⟩ (.int .i64 x2)).setCell ⟨w1.heap.size + 1, 3, none⟩ (.int .i64 x3))) := bS4 (bT (below1 _ _) HBQ.out) (by simp) _ _ _ _
    have HXW : Hid (Blk ((((w2.setCell ⟨w1.heap.size + 1, 0, none⟩ (.string nm)).setCell ⟨w1.heap.size + 1, 1, none⟩ (.int .i64 x1)).setCell ⟨w1.heap.size + 1, 2, none⟩ (.int .i64 x2)).setCell ⟨w1.heap.size + 1, 3, none⟩ (.int .i64 x3)) (w1.heap.size + 1) 56 #[.string nm, .int .i64 x1, .int .i64 x2, .int .i64 x3]) := HXZ.out.set4 _ _ _ _
    have HX1c := Lib.hid (HX1a.out.t HBN.out)
    have HX2c := Lib.hid (HX2a.out.t HBN.out)
    have HX3c := Lib.hid (HX3a.out.t HBN.out)
    have HBc := Lib.hid (bT HB1.out HBN.out)
    have HOc := Lib.hid (HOa.out.below HBN.out)
    have hsc := HBc.out.size
    have HROW := Lib.hid HOc.out.k.1
    obtain ⟨⟨u0, u1, u2, u3, u4⟩, g0, g1, g2, g3, g4⟩ := HX3c.out.a5g
    obtain ⟨s10, s11, s12, s13⟩ := HXW.out.a4g.1
    go_wp2_with (at_builtin; refine wpList_app1 _ rfl _ _ 24 rfl 56 _ 4 40 Tryz.underlying24 info_kind rfl (by decide) rfl HROW.out _ rfl (by first | rfl | simp) rfl (by simp [Value.oneCell']) (by omega) (by omega) (by first | omega | (simp; omega)) ?_; intro v' w6 ho' hg; obtain ⟨A6, c6, rfl⟩ := own_slice ho'; have HX1d := Lib.hid (HX1c.out.grown hg (own_blk HROW.out HX1c.out (by decide))); have HX2d := Lib.hid (HX2c.out.grown hg (own_blk HROW.out HX2c.out (by decide))); have HX3d := Lib.hid (HX3c.out.grown hg (own_blk HROW.out HX3c.out (by decide))); have HBd := Lib.hid (bP HBc.out HROW.out hg (Nat.le_refl _)); obtain ⟨⟨u0, u1, u2, u3, u4⟩, g0, g1, g2, g3, g4⟩ := HX3d.out.a5g; obtain ⟨⟨z0, z1, z2, z3, z4⟩, f0, f1, f2, f3, f4⟩ := HX2d.out.a5g; obtain ⟨⟨y0, y1, y2, y3, y4⟩, _⟩ := HX1d.out.a5g; have HO6 := Lib.hid ho'; have HG6 := Lib.hid hg; clear ho' hg)
    have HOd := Lib.hid (HOc.out.app_k (x := ⟨nm, x1, x2, x3⟩) HZ2.out (by simpa [kdC] using HO6.out) HG6.out)
    go_wp2_with fail
    refine bodyPost_ret (v := .tuple #[.agg #[.slice As1 ns cs1, .slice Ac1 nc cc1, .slice A6 (nk + 1) c6, .int .i64 lim, .int .i64 rnd], .int .i64 0]) (by simp [results, Tryz.results4, go_sem, z0, z1, z2, z3, z4]) rfl (put_yes HE0.out HV.out ?_ ?_)
    · exact (OwnT.setO HOd.out HX3d.out 2 _).set5 (HX2d.out.setO ne3 2 _) _ _ _ _ _
    · have h6 : Below w.heap.size w (w6.setCell ⟨w1.heap.size, 2, none⟩ (.slice A6 (nk + 1) c6)) := bS HBd.out hz1' _
      exact bS5s h6 (Nat.le_succ _) _ _ _ _ _
  · have HNZ := Lib.hid h0
    have HE5 : Hid (putE n L = 5) := HE.out.trans (H05.out h0)
    clear h0
    obtain ⟨⟨r0, r1, r2, r3⟩, d0, d1, d2, d3⟩ := HXZ.out.a4g
    have HBN : Hid (Below (w1.alloc (.cells #[.slice As1 ns cs1, .slice Ac1 nc cc1, .slice Ak1 nk ck1, .int .i64 lim, .int .i64 rnd] 26)).heap.size (w1.alloc (.cells #[.slice As1 ns cs1, .slice Ac1 nc cc1, .slice Ak1 nk ck1, .int .i64 lim, .int .i64 rnd] 26)) ((((w2.setCell ⟨w1.heap.size + 1, 0, none⟩ (.string ⟨#[]⟩)).setCell ⟨w1.heap.size + 1, 1, none⟩ (.int .i64 0)).setCell ⟨w1.heap.size + 1, 2, none⟩ (.int .i64 0)).setCell ⟨w1.heap.size + 1, 3, none⟩ (.int .i64 0))) := bS4 (bT (below1 _ _) HBQ.out) (by simp) _ _ _ _
    have HXW : Hid (Blk ((((w2.setCell ⟨w1.heap.size + 1, 0, none⟩ (.string ⟨#[]⟩)).setCell ⟨w1.heap.size + 1, 1, none⟩ (.int .i64 0)).setCell ⟨w1.heap.size + 1, 2, none⟩ (.int .i64 0)).setCell ⟨w1.heap.size + 1, 3, none⟩ (.int .i64 0)) (w1.heap.size + 1) 56 #[.string ⟨#[]⟩, .int .i64 0, .int .i64 0, .int .i64 0]) := HXZ.out.set4 _ _ _ _
    have HX1c := Lib.hid (HX1a.out.t HBN.out)
    have HX2c := Lib.hid (HX2a.out.t HBN.out)
    have HX3c := Lib.hid (HX3a.out.t HBN.out)
    have HBc := Lib.hid (bT HB1.out HBN.out)
    have HOc := Lib.hid (HOa.out.below HBN.out)
    have hsc := HBc.out.size
    have HROW := Lib.hid HOc.out.k.1
    obtain ⟨⟨u0, u1, u2, u3, u4⟩, g0, g1, g2, g3, g4⟩ := HX3c.out.a5g
    obtain ⟨s10, s11, s12, s13⟩ := HXW.out.a4g.1
    go_wp2_with (at_builtin; refine wpList_app1 _ rfl _ _ 24 rfl 56 _ 4 40 Tryz.underlying24 info_kind rfl (by decide) rfl HROW.out _ rfl (by first | rfl | simp) rfl (by simp [Value.oneCell']) (by omega) (by omega) (by first | omega | (simp; omega)) ?_; intro v' w6 ho' hg; obtain ⟨A6, c6, rfl⟩ := own_slice ho'; have HX1d := Lib.hid (HX1c.out.grown hg (own_blk HROW.out HX1c.out (by decide))); have HX2d := Lib.hid (HX2c.out.grown hg (own_blk HROW.out HX2c.out (by decide))); have HX3d := Lib.hid (HX3c.out.grown hg (own_blk HROW.out HX3c.out (by decide))); have HBd := Lib.hid (bP HBc.out HROW.out hg (Nat.le_refl _)); obtain ⟨⟨u0, u1, u2, u3, u4⟩, g0, g1, g2, g3, g4⟩ := HX3d.out.a5g; obtain ⟨⟨z0, z1, z2, z3, z4⟩, f0, f1, f2, f3, f4⟩ := HX2d.out.a5g; obtain ⟨⟨y0, y1, y2, y3, y4⟩, _⟩ := HX1d.out.a5g; have HO6 := Lib.hid ho'; have HG6 := Lib.hid hg; clear ho' hg)
    go_wp2_with fail
    refine bodyPost_ret (v := .tuple #[.agg #[.slice As ns cs, .slice Ac nc cc, .slice Ak nk ck, .int .i64 lim, .int .i64 rnd], .int .i64 5]) (by simp [results, Tryz.results4, go_sem, z0, z1, z2, z3, z4]) rfl (put_no (t := ⟨sch, cts, kds, lim, rnd⟩) HE5.out (by decide) ?_)
    have h6 : Below w.heap.size w (w6.setCell ⟨w1.heap.size, 2, none⟩ (.slice A6 (nk + 1) c6)) := bS HBd.out hz1' _
    exact bS5s h6 (Nat.le_succ _) _ _ _ _ _
--%%
set_option maxRecDepth 100000 in
set_option maxHeartbeats 6400000 in
theorem tput_other (sch : List (List Bd)) (cts : List Ct) (kds : List Kd) (As Ac Ak : Option Addr) (ns cs nc cc nk ck : Nat) (lim rnd : Int) (A : Option Addr) (n c : Nat) (L : List ByteArray) (w : World) (hS : ScSl w As ns sch) (hC : CtSl w Ac nc cts) (hK : KdSl w Ak nk kds) (hn : ns ≤ 100000 ∧ nc ≤ 100000 ∧ nk ≤ 100000) (hb : (∀ k, k < ns → (sch.getD k []).length ≤ 100000) ∧ (∀ k, k < nc → (cts.getD k ct0).bands.length ≤ 100000)) (hl : StSl w A n L) (hc : n ≤ c) (hs : ∀ k, k < n → (L.getD k st0).size ≤ 1000000) (hn2 : n ≤ 1000) (hm : ML w) (ht : TabS w) (h2 : 2 ≤ n) (hlimit : ¬ L.getD 0 st0 = ⟨#[108, 105, 109, 105, 116]⟩) (hround : ¬ L.getD 0 st0 = ⟨#[114, 111, 117, 110, 100]⟩) (hscheme : ¬ L.getD 0 st0 = ⟨#[115, 99, 104, 101, 109, 101]⟩) (hcontrib : ¬ L.getD 0 st0 = ⟨#[99, 111, 110, 116, 114, 105, 98]⟩) (hkind : ¬ L.getD 0 st0 = ⟨#[107, 105, 110, 100]⟩)  : Calls Tryz.prog 4 #[.agg #[.slice As ns cs, .slice Ac nc cc, .slice Ak nk ck, .int .i64 lim, .int .i64 rnd], .slice A n c] w (PutR ⟨sch, cts, kds, lim, rnd⟩ As Ac Ak ns cs nc cc nk ck n L w) := by
  have v2 : decide ((n : Int) < 2) = false := by simp; omega
  have t0 : ((L.getD 0 st0).toList == [108, 105, 109, 105, 116]) = false := by rw [str_const]; exact decide_eq_false hlimit
  have t1 : ((L.getD 0 st0).toList == [114, 111, 117, 110, 100]) = false := by rw [str_const]; exact decide_eq_false hround
  have t2 : ((L.getD 0 st0).toList == [115, 99, 104, 101, 109, 101]) = false := by rw [str_const]; exact decide_eq_false hscheme
  have t3 : ((L.getD 0 st0).toList == [99, 111, 110, 116, 114, 105, 98]) = false := by rw [str_const]; exact decide_eq_false hcontrib
  have t4 : ((L.getD 0 st0).toList == [107, 105, 110, 100]) = false := by rw [str_const]; exact decide_eq_false hkind
  have HW : Hid (putE n L = 5) := by unfold Hid putE; rw [if_neg (by omega), if_neg hlimit, if_neg hround, if_neg hscheme, if_neg hcontrib, if_neg hkind]
  obtain ⟨b, off, rfl, hlt, hat⟩ := hl.2.2 (by omega)
  have c0 := hat 0 (by omega) 0 _ rfl
  have c1 := hat 1 (by omega) 0 _ rfl
  simp only [Nat.zero_mul, Nat.add_zero, Nat.one_mul] at c0 c1
  have hz0 := hs 0 (by omega)
  have hz1 := hs 1 (by omega)
  have HL := Lib.hid hl
  have HSZ := Lib.hid hs
  have HSD : Hid (∀ k, k < n - 1 → ((L.drop 1).getD k st0).size ≤ 1000000) := fun k hk => by
    rw [getD_drop L 1 k]; exact hs _ (by omega)
  have HM := Lib.hid hm
  have HT := Lib.hid ht
  have HB0 := Lib.hid (bA (below1 w (.cells #[.slice As ns cs, .slice Ac nc cc, .slice Ak nk ck, .int .i64 lim, .int .i64 rnd] 26)) (.cells #[.slice none 0 0, .slice none 0 0, .slice none 0 0, .int .i64 0, .int .i64 0] 26))
  have KC : Hid (∀ W, Below w.heap.size w W → Calls Tryz.prog 12 #[.agg #[.slice As ns cs, .slice Ac nc cc, .slice Ak nk ck, .int .i64 lim, .int .i64 rnd]] W (CloneR sch cts kds ns nc nk lim rnd W)) := fun W hW => tclone_c sch cts kds As Ac Ak ns cs nc cc nk ck lim rnd W (hS.below hW) (hC.below hW) (hK.below hW) hn hb
  have x1 := (Blk.mk w 26 #[.slice As ns cs, .slice Ac nc cc, .slice Ak nk ck, .int .i64 lim, .int .i64 rnd]).alloc (.cells #[.slice none 0 0, .slice none 0 0, .slice none 0 0, .int .i64 0, .int .i64 0] 26)
  have x2 := Blk.mk (w.alloc (.cells #[.slice As ns cs, .slice Ac nc cc, .slice Ak nk ck, .int .i64 lim, .int .i64 rnd] 26)) 26 #[.slice none 0 0, .slice none 0 0, .slice none 0 0, .int .i64 0, .int .i64 0]
  rw [World.size_alloc] at x2
  have HX1 := Lib.hid x1
  have HX2 := Lib.hid x2
  obtain ⟨hns, hnc, hnk⟩ := hn
  have HCAP := Lib.hid hc
  have HC1 : Hid (∀ W, Below w.heap.size w W → W.cell? ⟨b, off + 1, none⟩ = some (.string (L.getD 1 st0))) := fun W hW => (hW.cell (p := ⟨b, _, none⟩) hlt).trans c1
  have HC0 : Hid (∀ W, Below w.heap.size w W → W.cell? ⟨b, off, none⟩ = some (.string (L.getD 0 st0))) := fun W hW => (hW.cell (p := ⟨b, _, none⟩) hlt).trans c0
  clear hS hC hK hb hl hs hm ht x1 x2 hat c0 c1
  generalize L.getD 0 st0 = s0 at *
  go_enter Tryz.func4, Tryz.ntmps4
  go_wp2_with fail
  refine (KC.out _ HB0.out).mono ?_
  rintro e w1 ⟨⟨As1, cs1, Ac1, cc1, Ak1, ck1, rfl, hO⟩, hb1⟩
  have HB1 := Lib.hid (bA (bT HB0.out hb1) (.cells #[.slice As1 ns cs1, .slice Ac1 nc cc1, .slice Ak1 nk ck1, .int .i64 lim, .int .i64 rnd] 26))
  have HO1 : Hid (OwnT w1 w.heap.size sch cts kds As1 Ac1 Ak1 ns cs1 nc cc1 nk ck1) := by
    have hz := HB0.out.size
    obtain ⟨⟨ls, e1, o1, b1⟩, ⟨lc, e2, o2, b2⟩, o3, b3⟩ := hO
    exact ⟨⟨ls, e1, own_more o1 hz, fun p hp => ⟨(b1 p hp).1, own_more (b1 p hp).2 hz⟩⟩, ⟨lc, e2, own_more o2 hz, fun p hp => ⟨⟨(b2 p hp).1.1, own_more (b2 p hp).1.2 hz⟩, (b2 p hp).2⟩⟩, own_more o3 hz, b3⟩
  have HX1a := Lib.hid ((HX1.out.t hb1).alloc (.cells #[.slice As1 ns cs1, .slice Ac1 nc cc1, .slice Ak1 nk ck1, .int .i64 lim, .int .i64 rnd] 26))
  have HX2a := Lib.hid ((HX2.out.t hb1).alloc (.cells #[.slice As1 ns cs1, .slice Ac1 nc cc1, .slice Ak1 nk ck1, .int .i64 lim, .int .i64 rnd] 26))
  have HX3a := Lib.hid (Blk.mk w1 26 #[.slice As1 ns cs1, .slice Ac1 nc cc1, .slice Ak1 nk ck1, .int .i64 lim, .int .i64 rnd])
  have HOa := Lib.hid (HO1.out.below (below1 w1 (.cells #[.slice As1 ns cs1, .slice Ac1 nc cc1, .slice Ak1 nk ck1, .int .i64 lim, .int .i64 rnd] 26)))
  have hz1' := (bT HB0.out hb1).size
  have hb1s := hb1.size
  have hw2 : w.heap.size + 1 + 1 ≤ w1.heap.size := by simpa using hb1s
  have ne1 : ¬ w.heap.size = w1.heap.size := by omega
  have ne2 : ¬ w1.heap.size = w.heap.size := by omega
  have ne3 : ¬ w.heap.size + 1 = w1.heap.size := by omega
  have ne4 : ¬ w1.heap.size = w.heap.size + 1 := by omega
  have q0 := HC0.out _ HB1.out
  have q1 := HC1.out _ HB1.out
  clear hO hb1 hb1s
  obtain ⟨⟨y0, y1, y2, y3, y4⟩, _⟩ := HX1a.out.a5g
  obtain ⟨⟨z0, z1, z2, z3, z4⟩, f0, f1, f2, f3, f4⟩ := HX2a.out.a5g
  go_wp2_with fail
  refine bodyPost_ret (v := .tuple #[.agg #[.slice As ns cs, .slice Ac nc cc, .slice Ak nk ck, .int .i64 lim, .int .i64 rnd], .int .i64 5]) (by simp [results, Tryz.results4, go_sem, z0, z1, z2, z3, z4]) rfl (put_no (t := ⟨sch, cts, kds, lim, rnd⟩) HW.out (by decide) ?_)
  exact bS5s HB1.out (Nat.le_succ _) _ _ _ _ _
--%%
end Go.Proofs.YtcngmajkkhipoaaGreatDoor
