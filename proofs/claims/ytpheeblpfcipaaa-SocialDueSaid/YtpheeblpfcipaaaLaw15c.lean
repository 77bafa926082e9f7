/-
  Layer 15's law SocialDue: its walk. No conditions.
-/
import Derived.Test.YtpheeblpfcipaaaLaw15b
namespace Go.Proofs.Ytpheeblpfcipaaa
set_option linter.unusedVariables false
open Go.RowKit
--%%
set_option maxRecDepth 100000 in
set_option maxHeartbeats 1600000 in
theorem socialDue_walk (sch : List (List Bd)) (cts : List Ct) (kds : List Kd) (As Ac Ak : Option Addr) (ns cs nc cc nk ck : Nat) (lim rnd : Int) (i x : Int) (w : World) (hs : ScSl w As ns sch) (hc : CtSl w Ac nc cts) (hcc : nc ≤ cc) (hk : KdSl w Ak nk kds) (hck : nk ≤ ck) :
    Calls Try.prog 3 #[.agg #[.slice As ns cs, .slice Ac nc cc, .slice Ak nk ck, .int .i64 lim, .int .i64 rnd], .int .i64 i, .int .i64 x] w fun e w' => e = .returned (.bool true) ∧ Below w.heap.size w w' := by
  have z := Blk.mk w 26 #[.slice As ns cs, .slice Ac nc cc, .slice Ak nk ck, .int .i64 lim, .int .i64 rnd]
  have hb0 := below1 w (.cells #[.slice As ns cs, .slice Ac nc cc, .slice Ak nk ck, .int .i64 lim, .int .i64 rnd] 26)
  have HS := Lib.hid hs
  have HC := Lib.hid hc
  have HK := Lib.hid hk
  clear hs hc hk
  go_enter Try.func3, Try.ntmps3
  go_wp2_with fail
  refine (pays_c _).mono ?_
  rintro e w1 ⟨rfl, hb1⟩
  have z1 := z.t hb1
  have hb2 := bT hb0 hb1
  obtain ⟨p0, p1, p2, p3, p4⟩ := z1.all5
  go_wp2_with fail
  refine (fits15_c sch cts kds As Ac Ak ns cs nc cc nk ck lim rnd _ (HS.out.below hb2) (HC.out.below hb2) hcc (HK.out.below hb2) hck).mono ?_
  rintro e w2 ⟨bb, ⟨rfl, hy⟩, hb3⟩
  have hb4 := bT hb2 hb3
  cases bb
  · clear hy
    go_wp2_with fail
    go_ret
    exact ⟨rfl, hb4⟩
  obtain ⟨hOK, hn20⟩ := hy rfl
  have HOK := Lib.hid hOK
  clear hOK hy p0 p1 p2 p3 p4
  have z2 := z1.t hb3
  obtain ⟨p0, p1, p2, p3, p4⟩ := z2.all5
  by_cases hi : i < 0
  · have hid : decide (i < 0) = true := by simpa using hi
    go_wp2_with fail
    go_ret
    exact ⟨rfl, hb4⟩
  have hid : decide (i < 0) = false := by simp; omega
  obtain ⟨k, rfl⟩ := Int.eq_ofNat_of_zero_le (show 0 ≤ i by omega)
  by_cases hk : k < nc
  case neg =>
    have hkd : decide ((nc : Int) ≤ (k : Int)) = true := by simp; omega
    have hkd2 : decide (nc ≤ k) = true := by simp; omega
    have hk3 : nc ≤ k := by omega
    clear hi
    go_wp2_with fail
    go_ret
    exact ⟨rfl, hb4⟩
  have hkd : decide ((nc : Int) ≤ (k : Int)) = false := by simp; omega
  have hkd2 : decide (nc ≤ k) = false := by simp; omega
  have hk3 : ¬ nc ≤ k := by omega
  have hct := HC.out.below hb4
  have hOKk := HOK.out.cts k (by have := hct.1; omega)
  obtain ⟨b, off, rfl, hlt, hat⟩ := hct.2.2 (by omega)
  obtain ⟨c0, _, c1, ⟨A', n', c', c2, hbs⟩, c3, c4, c5⟩ := hat k hk
  have HCT := Lib.hid hct
  have HAT := Lib.hid hat
  clear hct hat hi
  generalize cts.getD k ct0 = ct at *
  obtain ⟨nm, base, bands, pc, yc, rd⟩ := ct
  obtain ⟨_, okb, okm, okp, oky, okl⟩ := hOKk
  dsimp only at c0 c1 c2 c3 c4 c5 hbs okb okm okp oky okl
  have cb := Blk.mk w2 31 #[.string nm, .int .i64 base, .slice A' n' c', .int .i64 pc, .int .i64 yc, .int .i64 rd]
  have hb5 := bA hb4 (.cells #[.string nm, .int .i64 base, .slice A' n' c', .int .i64 pc, .int .i64 yc, .int .i64 rd] 31)
  have hbs3 := hbs.below (below1 w2 (.cells #[.string nm, .int .i64 base, .slice A' n' c', .int .i64 pc, .int .i64 yc, .int .i64 rd] 31))
  obtain ⟨q0, q1, q2, q3, q4, q5⟩ := cb.all6
  cases hx : mrB x
  · have hx' := mr_not.1 hx
    have KD := Lib.hid (fun W h => sdue_x nm base pc yc rd A' n' c' bands x W h okl hx)
    have KE := Lib.hid (fun W h => sexact_x nm base pc yc rd A' n' c' bands x W h okl hx)
    have HX := Lib.hid hx
    clear hx okl okb okm okp oky
    have z0 := eq_rep rep_zero rep_zero
    simp only [beq_self_eq_true] at z0
    go_wp2_with fail
    refine (KD.out _ hbs3).mono ?_
    rintro e w4 ⟨rfl, hb6⟩
    have cb1 := cb.t hb6
    have hb7 := bT hb5 hb6
    have sb := Blk.mk w4 33 #[.int .i64 0, .int .i64 0]
    have hbs4 := (hbs3.below hb6).below (below1 w4 (.cells #[.int .i64 0, .int .i64 0] 33))
    obtain ⟨r0, r1, r2, r3, r4, r5⟩ := (cb1.alloc (.cells #[.int .i64 0, .int .i64 0] 33)).all6
    go_wp2_with fail
    refine (KE.out _ hbs4).mono ?_
    rintro e w5 ⟨rfl, hb8⟩
    have hb9 := bT (bA hb7 _) hb8
    obtain ⟨s0, s1, s2, s3⟩ := (sb.t hb8).all2
    by_cases hlow : 100000000000 < x
    · go_wp2_with fail
      go_ret
      exact ⟨rfl, hb9⟩
    · have hlow2 : x < -100000000000 := by omega
      clear hx'
      go_wp2_with fail
      go_ret
      exact ⟨rfl, hb9⟩
  · have hbd := bandS_bd bands okl x hx
    have hx' := mr_iff.1 hx
    have KD := Lib.hid (fun W h => sdue_t nm base pc yc rd A' n' c' bands x W h okl hx okm (in53_iff.2 (by omega)) (in53_iff.2 (by omega)))
    have KE := Lib.hid (fun W h => sexact_t nm base pc yc rd A' n' c' bands x W h okl hx)
    have KL := Lib.hid (fun W h => due_c nm base pc yc rd A' n' c' bands x W h okl hx okm)
    have KR : Hid (∀ (bv : Bool) (W : World), BandSl W A' n' bands → Calls Try.prog 13 #[.int .i64 x, .slice A' n' c', .bool bv] W fun e w' => e = .returned (.int .i64 (pick2 bv (bandS (·.r) bands x) (bandS (·.e) bands x))) ∧ W = w') := fun bv W hW => by
      cases bv
      · exact rexact1_c x bands A' n' c' W hW okl hx
      · exact rexact2_c x bands A' n' c' W hW okl hx
    generalize hP : bandS (·.r) bands x = P at *
    generalize hE : bandS (·.e) bands x = E at *
    generalize roundI P 10000 rd = rp at *
    generalize roundI E 10000 rd = re at *
    have p1 : pick2 false P E = P := rfl
    have p2 : pick2 true P E = E := rfl
    have inP : in53 P = true := in53_iff.2 (by omega)
    have inE : in53 E = true := in53_iff.2 (by omega)
    have HX := Lib.hid hx
    clear hx okl okb okm okp oky hP hE hbd
    go_wp2_with fail
    refine (KD.out _ hbs3).mono ?_
    rintro e w4 ⟨rfl, hb6⟩
    have cb1 := cb.t hb6
    have hb7 := bT hb5 hb6
    have sb := Blk.mk w4 33 #[.int .i64 rp, .int .i64 re]
    have hbs4 := (hbs3.below hb6).below (below1 w4 (.cells #[.int .i64 rp, .int .i64 re] 33))
    have cb2 := cb1.alloc (.cells #[.int .i64 rp, .int .i64 re] 33)
    obtain ⟨r0, r1, r2, r3, r4, r5⟩ := cb2.all6
    go_wp2_with fail
    refine (KE.out _ hbs4).mono ?_
    rintro e w5 ⟨⟨u, v, rfl, ru, rv⟩, hb8⟩
    have hb9 := bT (bA hb7 _) hb8
    have sb2 := sb.t hb8
    have cb3 := cb2.t hb8
    have hbs5 := hbs4.below hb8
    have l1 : ¬ 100000000000 < x := by omega
    have l2 : ¬ x < -100000000000 := by omega
    have l3 : decide (100000000000 < x) = false := by simp; omega
    have l4 : decide (x < -100000000000) = false := by simp; omega
    go_wp2_with fail
    refine (sides_c u v P E ru rv inP inE _).mono ?_
    rintro e w' ⟨rfl, rfl⟩
    have G : Hid (∀ W, Below w5.heap.size w5 W → Below w5.heap.size w5 W ∧ W.cell? ⟨w4.heap.size, 0, none⟩ = some (.int .i64 rp) ∧ W.cell? ⟨w4.heap.size, 1, none⟩ = some (.int .i64 re) ∧ W.cell? ⟨w2.heap.size, 0, none⟩ = some (.string nm) ∧ W.cell? ⟨w2.heap.size, 1, none⟩ = some (.int .i64 base) ∧ W.cell? ⟨w2.heap.size, 2, none⟩ = some (.slice A' n' c') ∧ W.cell? ⟨w2.heap.size, 3, none⟩ = some (.int .i64 pc) ∧ W.cell? ⟨w2.heap.size, 4, none⟩ = some (.int .i64 yc) ∧ W.cell? ⟨w2.heap.size, 5, none⟩ = some (.int .i64 rd)) := fun W hW => ⟨hW, (sb2.t hW).cell 0, (sb2.t hW).cell 1, (cb3.t hW).cell 0, (cb3.t hW).cell 1, (cb3.t hW).cell 2, (cb3.t hW).cell 3, (cb3.t hW).cell 4, (cb3.t hW).cell 5⟩
    have HB5 := Lib.hid hbs5
    go_wp2_with fail
    go_region_held3 (fun W => Below w5.heap.size w5 W ∧ W.cell? ⟨w4.heap.size, 0, none⟩ = some (.int .i64 rp) ∧ W.cell? ⟨w4.heap.size, 1, none⟩ = some (.int .i64 re) ∧ W.cell? ⟨w2.heap.size, 0, none⟩ = some (.string nm) ∧ W.cell? ⟨w2.heap.size, 1, none⟩ = some (.int .i64 base) ∧ W.cell? ⟨w2.heap.size, 2, none⟩ = some (.slice A' n' c') ∧ W.cell? ⟨w2.heap.size, 3, none⟩ = some (.int .i64 pc) ∧ W.cell? ⟨w2.heap.size, 4, none⟩ = some (.int .i64 yc) ∧ W.cell? ⟨w2.heap.size, 5, none⟩ = some (.int .i64 rd))
      (first | assumption | exact G.out _ (b0 _).drew | (exact sK G.out (by assumption) (by assumption)))
      (first
        | (go_at_call 12; (with_reducible refine (KL.out _ (HB5.out.below (show Below w5.heap.size w5 _ ∧ _ from by assumption).1)).mono ?_); rintro e w6 ⟨rfl, hb10⟩)
        | (go_at_call 13; (with_reducible refine (KR.out _ _ (HB5.out.below (show Below w5.heap.size w5 _ ∧ _ from by assumption).1)).mono ?_); rintro e w6 ⟨rfl, rfl⟩))
    all_goals
      have hbz := bT hb9 (show Below w5.heap.size w5 _ ∧ _ from by assumption).1
      go_wp2_with fail
      go_ret
      exact ⟨rfl, hbz⟩
--%%
end Go.Proofs.Ytpheeblpfcipaaa
