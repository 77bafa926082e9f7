/-
  Layer 13's law TaxSpreads: its walk. No conditions.
-/
import Derived.Test.YtlfeppbhicmeoaaLaw13d
import Derived.Test.YtlfeppbhicmeoaaSprP
import Derived.Deep.QuietTactic
import Derived.BigQuiet
namespace Go.Proofs.Ytlfeppbhicmeoaa
set_option linter.unusedVariables false
open Go.RowKit
theorem fof_t (x : Int) (w : World) (hx : mrB x = true) :
    Calls Try.prog 31 #[.int .i64 x] w fun e w' => e = .returned (.tuple #[.int .i64 (x * 10000), .int .i64 0]) ∧ Below w.heap.size w w' := by
  have hx' := mr_iff.1 hx
  go_enter Try.func31, Try.ntmps31
  go_wp2_with fail
  refine (right1 _ _ _ x _ (by simp)).mono ?_
  rintro e w' ⟨rfl, rfl⟩
  go_wp2_with fail
  go_ret2
  exact ⟨rfl, below1 _ _⟩
--%%
/-- the two ways to have been paid give one answer -/
theorem spread_plain {sch : List (List Bd)} {rnd : Int} {c : Cd} (hfit : fitE sch c = 0) (hal : c.al = false) (hok : ∀ k, k < sch.length → bandsErr (sch.getD k []) = 0) (l : List Int) (n : Nat) (hn : n = l.length) (h0 : 0 < n) (h12 : n ≤ 12) (hx : ∀ j, j < n → -1000000000 ≤ l.getD j 0 ∧ l.getD j 0 ≤ 1000000000) :
    (∀ k, k < n → yE sch rnd 12 (stA c l n) k = 0) ∧ (∀ k, k < n → yE sch rnd 12 (stE c n (sumI1 l n)) k = 0) ∧ dueA sch rnd 12 (stA c l n) n = dueV sch rnd c (sumI1 l n) n 12 ∧ dueA sch rnd 12 (stE c n (sumI1 l n)) n = dueV sch rnd c (sumI1 l n) n 12 ∧ exE sch c (sumI1 l n) n 12 = 0 ∧ 0 ≤ dueV sch rnd c (sumI1 l n) n 12 ∧ dueV sch rnd c (sumI1 l n) n 12 ≤ 20000000000 ∧ -20000000000 ≤ sumI1 l n ∧ sumI1 l n ≤ 20000000000 := by
  have hb := sumI1_bd l n hx
  have hS := hb n (Nat.le_refl _)
  have hA := fun k hk => year_of (rnd := rnd) (nom := 12) hfit hal (by decide) (stA c l n) n (fun j hj => by rw [stA_get c l n j (by omega) hj]) (fun j hj => by rw [stA_get c l n j (by omega) hj]; have := hx j hj; dsimp only; omega)
    (fun j hj => by rw [stA_sum c l n (by omega) j hj]; have := hb j hj; omega) k hk
  have hE := fun k hk => year_of (rnd := rnd) (nom := 12) hfit hal (by decide) (stE c n (sumI1 l n)) n (fun j hj => by rw [stE_get c n _ j hj]) (fun j hj => by rw [stE_get c n _ j hj]; dsimp only; split <;> omega)
    (fun j hj => by rw [stE_sum c n _ j hj]; split <;> omega) k hk
  have hz := exE_zero2 (n := n) (d := 12) hfit (partB_iff.2 (by omega)) (sumI1 l n) (by omega) (by omega)
  have hd := due_bd sch rnd c (sumI1 l n) n 12 hok hz
  have hc := charge_bd sch c (sumI1 l n) n 12 hfit (partB_iff.2 (by omega))
  have e1 := (hA (n - 1) (by omega)).2
  have e2 := (hE (n - 1) (by omega)).2
  rw [show n - 1 + 1 = n by omega, show (((n - 1 : Nat) : Int) + 1) = (n : Int) by omega, show min (n : Int) 12 = n by omega] at e1 e2
  rw [stA_sum c l n (by omega) n (Nat.le_refl _)] at e1
  rw [stE_sum c n _ n (Nat.le_refl _), if_neg (by omega)] at e2
  exact ⟨fun k hk => (hA k hk).1, fun k hk => (hE k hk).1, e1, e2, hz, hd.1, by omega, by omega, by omega⟩
theorem dueL_last (sch : List (List Bd)) (rnd nom : Int) (l : List St) (n : Nat) (h : 0 < n) : (dueL sch rnd nom l n).getD (n - 1) 0 = dueA sch rnd nom l n := by
  simp [dueL, List.getD, show n - 1 < n by omega, show n - 1 + 1 = n by omega]
set_option maxRecDepth 100000 in
set_option maxHeartbeats 6400000 in
theorem taxSpreads_walk (sch : List (List Bd)) (cts : List Ct) (kds : List Kd) (As Ac Ak Ax : Option Addr) (ns cs nc cc nk ck n cx : Nat) (lim rnd : Int) (s kd a f : Int) (al : Bool) (l : List Int) (w : World) (hs : ScSl w As ns sch) (hc : CtSl w Ac nc cts) (hcc : nc ≤ cc) (hk : KdSl w Ak nk kds) (hck : nk ≤ ck) (hl : I64Sl w Ax n l) :
    Calls Try.prog 8 #[.agg #[.slice As ns cs, .slice Ac nc cc, .slice Ak nk ck, .int .i64 lim, .int .i64 rnd], .agg #[.int .i64 s, .int .i64 kd, .int .i64 a, .int .i64 f, .bool al], .slice Ax n cx] w fun e w' => e = .returned (.bool true) ∧ Below w.heap.size w w' := by
  have hb0 := bA (below1 w (.cells #[.slice As ns cs, .slice Ac nc cc, .slice Ak nk ck, .int .i64 lim, .int .i64 rnd] 26)) (.cells #[.int .i64 s, .int .i64 kd, .int .i64 a, .int .i64 f, .bool al] 40)
  have z := (Blk.mk w 26 #[.slice As ns cs, .slice Ac nc cc, .slice Ak nk ck, .int .i64 lim, .int .i64 rnd]).alloc (.cells #[.int .i64 s, .int .i64 kd, .int .i64 a, .int .i64 f, .bool al] 40)
  have y := Blk.mk (w.alloc (.cells #[.slice As ns cs, .slice Ac nc cc, .slice Ak nk ck, .int .i64 lim, .int .i64 rnd] 26)) 40 #[.int .i64 s, .int .i64 kd, .int .i64 a, .int .i64 f, .bool al]
  simp only [World.size_alloc] at y
  have HS := Lib.hid hs
  have HC := Lib.hid hc
  have HK := Lib.hid hk
  have HL := Lib.hid hl
  have KN := Lib.hid (new2024_yes 4 (by decide))
  clear hs hc hk hl
  go_enter Try.func8, Try.ntmps8
  go_wp2_with fail
  refine (dues_c _).mono ?_
  rintro e w1 ⟨rfl, hb1⟩
  have hb2 := bT hb0 hb1
  have z1 := z.t hb1
  have y1 := y.t hb1
  go_wp2_with fail
  refine (KN.out _).mono ?_
  rintro e w2 ⟨⟨gy, rfl, hyr, hg1, hg2⟩, hb3⟩
  have HY := Lib.hid hyr
  clear hyr
  have z2 := z1.t hb3
  have y2 := y1.t hb3
  have hb4 := bT hb2 hb3
  obtain ⟨p0, p1, p2, p3, p4⟩ := z2.all5
  obtain ⟨q0, q1, q2, q3, q4⟩ := y2.all5
  go_wp2_with fail
  refine (fits13_c sch cts kds As Ac Ak ns cs nc cc nk ck lim rnd s kd a f al 1 1 _ (HS.out.below hb4) (HC.out.below hb4) hcc (HK.out.below hb4) hck).mono ?_
  rintro e w3 ⟨bb, ⟨rfl, hy⟩, hb5⟩
  have hb6 := bT hb4 hb5
  have z3 := z2.t hb5
  have y3 := y2.t hb5
  have HY3 := Lib.hid (HY.out.t hb5)
  clear p0 p1 p2 p3 p4 q0 q1 q2 q3 q4
  obtain ⟨q0, q1, q2, q3, q4⟩ := y3.all5
  cases bb
  · clear hy
    go_wp2_with fail
    go_ret
    exact ⟨rfl, hb6⟩
  have HF := Lib.hid (hy rfl)
  clear hy
  cases al
  case true =>
    go_wp2_with fail
    go_ret
    exact ⟨rfl, hb6⟩
  by_cases hn0 : n = 0
  · have v : ((n : Int) == 0) = true := by simp; omega
    clear hn0
    go_wp2_with fail
    go_ret
    exact ⟨rfl, hb6⟩
  have v0 : ((n : Int) == 0) = false := by simp; omega
  by_cases hn12 : 12 < n
  · have v : decide ((12 : Int) < (n : Int)) = true := by simp; omega
    clear hn0 hn12
    go_wp2_with fail
    go_ret
    exact ⟨rfl, hb6⟩
  have v12 : decide ((12 : Int) < (n : Int)) = false := by simp; omega
  have hn1 : 0 < n := by omega
  have hn2 : n ≤ 12 := by omega
  have HLN := Lib.hid HL.out.1
  clear hn0 hn12
  have HS0 : Hid (sumI1 l 0 = 0) := rfl
  go_wp2_with fail
  go_loopw [9, 10, 11, 55] (fun va vb sm i wr => ∃ k : Nat, k ≤ n ∧ i = .int .i64 k ∧ sm = .int .i64 (sumI1 l k) ∧ Hid (∀ j, j < k → -1000000000 ≤ l.getD j 0 ∧ l.getD j 0 ≤ 1000000000) ∧ OwnSt wr w3.heap.size va k (stA ⟨s, kd, a, f, false⟩ l k) ∧ OwnSt wr w3.heap.size vb k (if k < n then stB ⟨s, kd, a, f, false⟩ k else stE ⟨s, kd, a, f, false⟩ n (sumI1 l n)) ∧ Apart va vb ∧ Below w3.heap.size w3 wr) (fun _ _ _ i _ => n - (intOf i).toNat)
  case atStart => exact ⟨0, Nat.zero_le _, rfl, by rw [HS0.out], fun j hj => absurd hj (by omega), ⟨rfl, World.ownsRow_nil _ _ _ _⟩, by rw [if_pos hn1]; exact ⟨rfl, World.ownsRow_nil _ _ _ _⟩, (fun g hg => by cases hg), b0 _⟩
  case round =>
    obtain ⟨k, hk', rfl, rfl, HB, hoa, hob, hap, hbl⟩ := hrel
    have hB := bT hb6 hbl
    by_cases hk : k < n
    · rw [if_pos hk] at hob
      obtain ⟨bx, ox, rfl, hltx, hatx⟩ := HL.out.2.2 hn1
      have hcx := (hB.cell (p := ⟨bx, ox + k, none⟩) hltx).trans (hatx k hk)
      have hbd := sumI1_bd l k HB.out k (Nat.le_refl _)
      have HX : Hid (sumI1 l (k + 1) = sumI1 l k + l.getD k 0) := rfl
      have HSA := Lib.hid (stA_snoc ⟨s, kd, a, f, false⟩ l k (by rw [← HLN.out]; exact hk))
      have HSB := Lib.hid (stB_snoc ⟨s, kd, a, f, false⟩ k)
      have HAP := Lib.hid hap
      have hcd := (y3.t hbl).all5
      obtain ⟨c0, c1, c2, c3, c4⟩ := hcd
      obtain ⟨hbd0, hbd1⟩ := hbd
      have hkn9 : k ≤ 12 := by omega
      clear hatx hap q0 q1 q2 q3 q4
      by_cases g1 : 1000000000 < l.getD k 0
      · generalize l.getD k 0 = x at *
        have vx : decide (1000000000 < x) = true := by simpa using g1
        clear g1
        go_wp2_with fail
        go_ret
        exact ⟨rfl, hB⟩
      by_cases g2 : l.getD k 0 < -1000000000
      · generalize l.getD k 0 = x at *
        have vx : decide (1000000000 < x) = false := by simpa using g1
        have vy : decide (x < -1000000000) = true := by simpa using g2
        clear g1 g2
        go_wp2_with fail
        go_ret
        exact ⟨rfl, hB⟩
      have HB2 : Hid (∀ j, j < k + 1 → -1000000000 ≤ l.getD j 0 ∧ l.getD j 0 ≤ 1000000000) := fun j hj => by
        rcases (by omega : j = k ∨ j < k) with rfl | hj
        · omega
        · exact HB.out j hj
      generalize l.getD k 0 = x at *
      have vx : decide (1000000000 < x) = false := by simpa using g1
      have vy : decide (x < -1000000000) = false := by simpa using g2
      have x0 : -1000000000 ≤ x := by omega
      have x1 : x ≤ 1000000000 := by omega
      have HOA := Lib.hid hoa.2
      have HOA1 := Lib.hid hoa.1
      have HOB := Lib.hid hob.2
      have HOB1 := Lib.hid hob.1
      have hsz := hbl.size
      clear g1 g2 hoa hob
      have hflA : (stA ⟨s, kd, a, f, false⟩ l k).flatMap stC ++ #[Value.int .i64 s, .int .i64 kd, .int .i64 a, .int .i64 f, .bool false, .int .i64 x].toList = (stA ⟨s, kd, a, f, false⟩ l (k + 1)).flatMap stC := by rw [HSA.out, List.flatMap_append]; simp [stC]
      have hflB : (stB ⟨s, kd, a, f, false⟩ k).flatMap stC ++ #[Value.int .i64 s, .int .i64 kd, .int .i64 a, .int .i64 f, .bool false, .int .i64 0].toList = (stB ⟨s, kd, a, f, false⟩ (k + 1)).flatMap stC := by rw [HSB.out, List.flatMap_append]; simp [stC]
      have HR5 : Hid (((stB ⟨s, kd, a, f, false⟩ k).flatMap stC ++ #[Value.int .i64 s, .int .i64 kd, .int .i64 a, .int .i64 f, .bool false, .int .i64 0].toList)[5]? = some (.int .i64 0)) := by
        rw [hflB]; unfold Hid; simp [stB, List.replicate_succ, stC]
      have HFA := Lib.hid hflA
      have HFB := Lib.hid hflB
      have HLA : Hid (k + 1 = (stA ⟨s, kd, a, f, false⟩ l (k + 1)).length) := by unfold Hid; rw [HSA.out, List.length_append, ← HOA1.out]; rfl
      have hz1 : 0 < k + 1 := by omega
      clear hflA hflB
      by_cases hlast : k + 1 = n
      · have vl : ((k : Int) == (n : Int) - 1) = true := by simp; omega
        go_wp2_with (first
          | (at_builtin; refine wpList_app1B _ rfl (.tmp 66) (.tmp 70) 27 rfl 42 _ 6 48 Try.underlying27 info_step rfl (by decide) rfl HOA.out _ rfl (by first | rfl | simp) rfl (by simp [Value.oneCell']) (by omega) (by omega) (by first | omega | (simp; omega)) ?_; intro va' w6 hoa' hg6 hk6; have hb7 := bP hbl HOA.out hg6 (Nat.le_refl _); obtain ⟨d0, d1, d2, d3, d4⟩ := (y3.t hb7).all5; have HOB2 := Lib.hid (apart_keep HAP.out HOB.out hg6); have HAP2 := Lib.hid (apart_l HAP.out HOB.out hk6 (by omega)); have HOA2 := Lib.hid hoa'; have hsz6 := hb7.size; clear c0 c1 c2 c3 c4 hoa' hk6)
          | (at_builtin; refine wpList_app1B _ rfl (.tmp 72) (.tmp 75) 27 rfl 42 _ 6 48 Try.underlying27 info_step rfl (by decide) rfl HOB2.out _ rfl (by first | rfl | simp) rfl (by simp [Value.oneCell']) (by omega) (by omega) (by first | omega | (simp; omega)) ?_; intro vb' w7 hob' hg7 hk7; obtain ⟨g, cap, rfl, hgb, hgl, hgc, hob7⟩ := own_form hob' (by omega); have hrow := own_row hob7; have r5 := (hrow.1 5 (by omega)).trans HR5.out; have f5 := hrow.2 5; have HOB3 := Lib.hid hob7; clear hob' hob7 hrow))
        go_roundw
        case rel =>
          have hb8 := bP hb7 HOB2.out hg7 (Nat.le_refl _)
          have HOA3 := Lib.hid (apart_keep' HAP2.out HOA2.out hg7)
          have HAP3 := Lib.hid (apart_r HAP2.out HOA2.out hk7 (by omega))
          rw [HFA.out] at HOA3
          rw [HFB.out] at HOB3
          refine ⟨k + 1, by omega, by go_num, by rw [HX.out], HB2, ⟨HLA.out, apart_keep' HAP3.out HOA3.out (grown_set w7 g 5 _)⟩, ?_, HAP3.out, bS hb8 hgb _⟩
          rw [if_neg (by omega), ← hlast]
          refine ⟨by simp [stE], ?_⟩
          rw [← stB_set _ _ _ (by omega), HX.out]
          exact own_set HOB3.out 5 (by omega) _
        case measure => simp [intOf]; omega
      · have vl : ((k : Int) == (n : Int) - 1) = false := by simp; omega
        go_wp2_with (first
          | (at_builtin; refine wpList_app1B _ rfl (.tmp 66) (.tmp 70) 27 rfl 42 _ 6 48 Try.underlying27 info_step rfl (by decide) rfl HOA.out _ rfl (by first | rfl | simp) rfl (by simp [Value.oneCell']) (by omega) (by omega) (by first | omega | (simp; omega)) ?_; intro va' w6 hoa' hg6 hk6; have hb7 := bP hbl HOA.out hg6 (Nat.le_refl _); obtain ⟨d0, d1, d2, d3, d4⟩ := (y3.t hb7).all5; have HOB2 := Lib.hid (apart_keep HAP.out HOB.out hg6); have HAP2 := Lib.hid (apart_l HAP.out HOB.out hk6 (by omega)); have HOA2 := Lib.hid hoa'; have hsz6 := hb7.size; clear c0 c1 c2 c3 c4 hoa' hk6)
          | (at_builtin; refine wpList_app1B _ rfl (.tmp 72) (.tmp 75) 27 rfl 42 _ 6 48 Try.underlying27 info_step rfl (by decide) rfl HOB2.out _ rfl (by first | rfl | simp) rfl (by simp [Value.oneCell']) (by omega) (by omega) (by first | omega | (simp; omega)) ?_; intro vb' w7 hob' hg7 hk7; obtain ⟨g, cap, rfl, hgb, hgl, hgc, hob7⟩ := own_form hob' (by omega); have hrow := own_row hob7; have r5 := (hrow.1 5 (by omega)).trans HR5.out; have f5 := hrow.2 5; have HOB3 := Lib.hid hob7; clear hob' hob7 hrow))
        go_roundw
        case rel =>
          have hb8 := bP hb7 HOB2.out hg7 (Nat.le_refl _)
          have HOA3 := Lib.hid (apart_keep' HAP2.out HOA2.out hg7)
          have HAP3 := Lib.hid (apart_r HAP2.out HOA2.out hk7 (by omega))
          rw [HFA.out] at HOA3
          rw [HFB.out] at HOB3
          refine ⟨k + 1, by omega, by go_num, by rw [HX.out], HB2, ⟨HLA.out, HOA3.out⟩, ?_, HAP3.out, hb8⟩
          rw [if_pos (by omega)]
          exact ⟨by simp [stB], HOB3.out⟩
        case measure => simp [intOf]; omega
    obtain rfl : k = n := by omega
    rw [if_neg (by omega)] at hob
    obtain ⟨Aa, ca, rfl, hsa⟩ := hoa.sl
    obtain ⟨Ab, cb, rfl, hsb⟩ := hob.sl
    have hok : ∀ j, j < ns → bandsErr (sch.getD j []) = 0 := fun j hj => (HF.out.ok.sch j (by rw [← HS.out.1]; exact hj)).bands
    obtain ⟨hyA, hyB, hdA, hdB, hez, hd0, hd1, hS0, hS1⟩ := spread_plain (rnd := rnd) HF.out.fit rfl (fun j hj => hok j (by rw [HS.out.1]; exact hj)) l k HLN.out hn1 hn2 HB.out
    have KYA := Lib.hid (fun W h1 h2 h3 => tyear_c sch As Ac Ak Aa ns cs nc cc nk ck k ca lim rnd 4 365 (by decide) (by decide) gy (stA ⟨s, kd, a, f, false⟩ l k) W h1 hok HF.out.ok.rnd h2 h3 (by show (k : Int) ≤ 12; omega) (by omega))
    have KYB := Lib.hid (fun W h1 h2 h3 => tyear_c sch As Ac Ak Ab ns cs nc cc nk ck k cb lim rnd 4 365 (by decide) (by decide) gy (stE ⟨s, kd, a, f, false⟩ k (sumI1 l k)) W h1 hok HF.out.ok.rnd h2 h3 (by show (k : Int) ≤ 12; omega) (by omega))
    have KDU := Lib.hid (fun W h => tdue_t sch As Ac Ak ns cs nc cc nk ck lim rnd s kd a f false (sumI1 l k) k 12 W h hok HF.out.ok.rnd hez)
    rw [show roundI (exV sch ⟨s, kd, a, f, false⟩ (sumI1 l k) k 12) 10000 rnd = dueV sch rnd ⟨s, kd, a, f, false⟩ (sumI1 l k) k 12 from rfl] at KDU
    have HYA := Lib.hid hyA
    have HYB := Lib.hid hyB
    have HDA := Lib.hid ((dueL_last sch rnd 12 (stA ⟨s, kd, a, f, false⟩ l k) k hn1).trans hdA)
    have HDB := Lib.hid ((dueL_last sch rnd 12 (stE ⟨s, kd, a, f, false⟩ k (sumI1 l k)) k hn1).trans hdB)
    have HSA := Lib.hid hsa
    have HSB := Lib.hid hsb
    generalize dueV sch rnd ⟨s, kd, a, f, false⟩ (sumI1 l k) k 12 = xv at *
    have KOF := Lib.hid (fof_t xv · (mr_t (by omega)))
    have KFR := Lib.hid (fright_c (xv * 10000))
    rw [show exB (xv * 10000) = true from exB_iff.2 (by omega)] at KFR
    generalize sumI1 l k = S at *
    clear hoa hob hsa hsb hok hyA hyB hdA hdB hez hap q0 q1 q2 q3 q4 HS0 HB
    obtain ⟨p0, p1, p2, p3, p4⟩ := (z3.t hbl).all5
    have t1 : (0 : Int) ≤ (k : Int) - 1 := by omega
    have t2 : ((k : Int) - 1).toNat = k - 1 := by omega
    have t3 : (k : Int) - 1 < (k : Int) := by omega
    go_wp2_with fail
    refine (KYA.out _ (HS.out.below hB) (HY3.out.t hbl) HSA.out).mono ?_
    rintro e w8 ⟨hcase, hb9⟩
    rcases hcase with h8 | ⟨j, hj, _, hne, _⟩
    case inr => exact absurd (HYA.out j hj) hne
    obtain ⟨_, v8, rfl, hv8⟩ := h8
    rw [show nomI 4 = 12 from rfl] at hv8
    obtain ⟨A8, c8, rfl, _, hs8⟩ := hv8.sl
    obtain ⟨b8, o8, rfl, hlt8, hat8⟩ := hs8.2.2 hn1
    have e8 := hat8 (k - 1) (by omega)
    rw [HDA.out] at e8
    clear p0 p1 p2 p3 p4 hv8 hs8 hat8
    have hb10 := bT hbl hb9
    have hB10 := bT hB hb9
    obtain ⟨p0, p1, p2, p3, p4⟩ := (z3.t hb10).all5
    go_wp2_with fail
    refine (KYB.out _ (HS.out.below hB10) (HY3.out.t hb10) (RowSl.below HSB.out hb9)).mono ?_
    rintro e w9 ⟨hcase, hb11⟩
    rcases hcase with h9 | ⟨j, hj, _, hne, _⟩
    case inr => exact absurd (HYB.out j hj) hne
    obtain ⟨_, v9, rfl, hv9⟩ := h9
    rw [show nomI 4 = 12 from rfl] at hv9
    obtain ⟨A9, c9, rfl, _, hs9⟩ := hv9.sl
    obtain ⟨b9, o9, rfl, hlt9, hat9⟩ := hs9.2.2 hn1
    have e9 := hat9 (k - 1) (by omega)
    rw [HDB.out] at e9
    clear p0 p1 p2 p3 p4 hv9 hs9 hat9
    have hb12 := bT hb10 hb11
    have hB12 := bT hB10 hb11
    have e8' := (hb11.cell (p := ⟨b8, _, none⟩) hlt8).trans e8
    obtain ⟨p0, p1, p2, p3, p4⟩ := (z3.t hb12).all5
    obtain ⟨q0, q1, q2, q3, q4⟩ := (y3.t hb12).all5
    clear e8
    go_wp2_with fail
    refine (KDU.out _ (HS.out.below hB12)).mono ?_
    rintro e w10 ⟨rfl, hb13⟩
    have hB14 := bT hB12 hb13
    have e8a := (hb13.cell (p := ⟨b8, _, none⟩) (Nat.lt_of_lt_of_le hlt8 hb11.size)).trans e8'
    have e9a := (hb13.cell (p := ⟨b9, _, none⟩) hlt9).trans e9
    have hl8 : b8 < w10.heap.size := Nat.lt_of_lt_of_le (Nat.lt_of_lt_of_le hlt8 hb11.size) hb13.size
    have hl9 : b9 < w10.heap.size := Nat.lt_of_lt_of_le hlt9 hb13.size
    clear p0 p1 p2 p3 p4 q0 q1 q2 q3 q4 e8' e9
    go_wp2_with fail
    refine (KOF.out _).mono ?_
    rintro e w11 ⟨rfl, hb15⟩
    have hB16 := bT hB14 hb15
    have e8b := (hb15.cell (p := ⟨b8, _, none⟩) hl8).trans e8a
    have e9b := (hb15.cell (p := ⟨b9, _, none⟩) hl9).trans e9a
    clear e8a e9a
    go_wp2_with fail
    go_quiet ((go_at_call 32; exact Calls.quiet_of_same ((KFR.out _).mono fun e w' h => ⟨h.1, h.2.symm⟩)))
    go_wp2_with fail
    go_ret
    exact ⟨rfl, bD hB16 _⟩
--%%
end Go.Proofs.Ytlfeppbhicmeoaa
