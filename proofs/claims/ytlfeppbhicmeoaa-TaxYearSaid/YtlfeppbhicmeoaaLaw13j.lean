/-
  Layer 13's law TaxYear: its walk. No conditions.
-/
import Derived.Test.YtlfeppbhicmeoaaLaw13d
import Derived.Test.YtlfeppbhicmeoaaYearP
import Derived.Deep.QuietTactic
import Derived.BigQuiet
namespace Go.Proofs.Ytlfeppbhicmeoaa
set_option linter.unusedVariables false
open Go.RowKit
theorem nom_facts (f : Int) (h : nomI f ≠ 0) : 12 ≤ nomI f ∧ nomI f ≤ 1000 ∧ cntI f 366 ≤ nomI f + 1 ∧ cntI f 366 ≤ 60 := by
  rcases nom_cases f h with rfl | rfl | rfl | rfl <;> decide
def OwnCd (w : World) (base : Nat) (v : Value) (n : Nat) (l : List Cd) : Prop := n = l.length ∧ w.ownsRow base 40 5 v n (l.flatMap cdC)
theorem info_code : (Try.prog.info? 40).map (fun i => (i.zero, i.size, i.bytes)) = some (some (.agg #[.int .i64 0, .int .i64 0, .int .i64 0, .int .i64 0, .bool false]), 5, 40) := by kernel_rfl
theorem OwnCd.sl {w : World} {base : Nat} {v : Value} {n : Nat} {l : List Cd} (h : OwnCd w base v n l) : ∃ A c, v = .slice A n c ∧ CdSl w A n l := by
  obtain ⟨A, c, rfl, _, hs⟩ := own_sl cdC 5 cd0 cdC_len h.2 h.1 (by decide)
  exact ⟨A, c, rfl, hs⟩
--%%
set_option maxRecDepth 100000 in
set_option maxHeartbeats 12800000 in
theorem taxYear_walk (sch : List (List Bd)) (cts : List Ct) (kds : List Kd) (As Ac Ak Al : Option Addr) (ns cs nc cc nk ck n cl : Nat) (lim rnd fq : Int) (l : List St) (w : World) (hs : ScSl w As ns sch) (hc : CtSl w Ac nc cts) (hcc : nc ≤ cc) (hk : KdSl w Ak nk kds) (hck : nk ≤ ck) (hl : StSl w Al n l) :
    Calls Try.prog 7 #[.agg #[.slice As ns cs, .slice Ac nc cc, .slice Ak nk ck, .int .i64 lim, .int .i64 rnd], .int .i64 fq, .slice Al n cl] w fun e w' => e = .returned (.bool true) ∧ Below w.heap.size w w' := by
  have hb0 := below1 w (.cells #[.slice As ns cs, .slice Ac nc cc, .slice Ak nk ck, .int .i64 lim, .int .i64 rnd] 26)
  have z := Blk.mk w 26 #[.slice As ns cs, .slice Ac nc cc, .slice Ak nk ck, .int .i64 lim, .int .i64 rnd]
  have HS := Lib.hid hs
  have HC := Lib.hid hc
  have HK := Lib.hid hk
  have HL := Lib.hid hl
  clear hs hc hk hl
  by_cases hnf : nomI fq = 0
  · have KN := Lib.hid (new2023_no fq hnf)
    clear hnf
    go_enter Try.func7, Try.ntmps7
    go_wp2_with fail
    refine (dues_c _).mono ?_
    rintro e w1 ⟨rfl, hb1⟩
    have hb2 := bT hb0 hb1
    go_wp2_with fail
    refine (KN.out _).mono ?_
    rintro e w2 ⟨rfl, hb3⟩
    go_wp2_with fail
    go_ret
    exact ⟨rfl, bT hb2 hb3⟩
  have KN := Lib.hid (new2023_yes fq hnf)
  have HNF := Lib.hid hnf
  have hnm := nom_facts fq hnf
  obtain ⟨hn0, hn1, hn2, hn3⟩ := hnm
  clear hnf
  go_enter Try.func7, Try.ntmps7
  go_wp2_with fail
  refine (dues_c _).mono ?_
  rintro e w1 ⟨rfl, hb1⟩
  have hb2 := bT hb0 hb1
  have z1 := z.t hb1
  go_wp2_with fail
  refine (KN.out _).mono ?_
  rintro e w2 ⟨⟨gy, rfl, hyr, hg1, hg2⟩, hb3⟩
  have HY := Lib.hid hyr
  clear hyr
  have z2 := z1.t hb3
  have hb4 := bT hb2 hb3
  obtain ⟨p0, p1, p2, p3, p4⟩ := z2.all5
  by_cases h1 : ns ≤ 20
  case neg =>
    have t1 : decide ((20 : Int) < (ns : Int)) = true := by simp; omega
    clear hn2 hn3
    go_wp2_with fail
    go_ret
    exact ⟨rfl, hb4⟩
  have t1 : decide ((20 : Int) < (ns : Int)) = false := by simp; omega
  go_wp2_with fail
  refine (tcheck_c sch cts kds As Ac Ak ns cs nc cc nk ck lim rnd _ (HS.out.below hb4) (HC.out.below hb4) hcc (HK.out.below hb4) hck).mono ?_
  rintro e w3 ⟨rc, ⟨rfl, hrc⟩, hb5⟩
  have HR := Lib.hid hrc
  clear hrc p0 p1 p2 p3 p4
  have hb6 := bT hb4 hb5
  have z3 := z2.t hb5
  have HY3 := Lib.hid (HY.out.t hb5)
  by_cases hz : rc = 0
  case neg =>
    have u : (rc != 0) = true := by simpa using hz
    clear hn2 hn3
    go_wp2_with fail
    go_ret
    exact ⟨rfl, hb6⟩
  subst hz
  have HOK := Lib.hid (HR.out rfl)
  have hok : ∀ k, k < ns → bandsErr (sch.getD k []) = 0 := fun k hk => (HOK.out.sch k (by rw [← HS.out.1]; exact hk)).bands
  have HKO := Lib.hid hok
  by_cases h60 : 60 < n
  · have t2 : decide ((60 : Int) < (n : Int)) = true := by simp; omega
    clear hn2 hn3 hok
    go_wp2_with fail
    go_ret
    exact ⟨rfl, hb6⟩
  have t2 : decide ((60 : Int) < (n : Int)) = false := by simp; omega
  have h60' : n ≤ 60 := by omega
  have hcn : ∀ W, YrAt W gy fq 366 → Calls Try.prog 27 #[.pointer (some ⟨gy, 0, none⟩)] W fun e w' => e = .returned (.int .i64 (cntI fq 366)) ∧ W = w' := fun W h => count_c fq 366 HNF.out (by decide) gy W h
  have HCN := Lib.hid hcn
  clear hcn
  by_cases hmc : cntI fq 366 < (n : Int)
  · have KY := Lib.hid (fun W h => tyear_r As Ac Ak Al ns cs nc cc nk ck n cl lim rnd fq 366 HNF.out (by decide) gy W h hmc)
    have v : decide (cntI fq 366 < (n : Int)) = true := by simpa using hmc
    generalize cntI fq 366 = cn at *
    clear hmc hn2 hn3 hok
    obtain ⟨p0, p1, p2, p3, p4⟩ := z3.all5
    go_wp2_with fail
    refine (KY.out _ HY3.out).mono ?_
    rintro e w4 ⟨rfl, hb7⟩
    go_wp2_with fail
    refine (HCN.out _ (HY3.out.t hb7)).mono ?_
    rintro e w5 ⟨rfl, rfl⟩
    go_wp2_with fail
    go_ret
    exact ⟨rfl, bT hb6 hb7⟩
  have KY := Lib.hid (fun W h1 h2 h3 => tyear_c sch As Ac Ak Al ns cs nc cc nk ck n cl lim rnd fq 366 HNF.out (by decide) gy l W h1 hok HOK.out.rnd h2 h3 (by omega) (by omega))
  have KX := Lib.hid (fun j s k a f al x tx ah W h1 h2 h3 h4 v h5 => tnext_t sch As Ac Ak ns cs nc cc nk ck lim rnd fq 366 HNF.out (by decide) gy j s k a f al x tx ah W h1 hok HOK.out.rnd h2 h3 h4 v h5)
  have KXR := Lib.hid (fun s k a f al x tx ah W h2 => tnext_r As Ac Ak ns cs nc cc nk ck lim rnd fq 366 HNF.out (by decide) gy 0 s k a f al x tx ah W h2 (by omega))
  have KRY := Lib.hid (fun Ad Ax cd cx W h1 h2 h3 h4 => rtyear_c sch As Ac Ak Ad Ax ns cs nc cc nk ck n cd cx lim rnd (nomI fq) (by omega) l W h1 hok HOK.out.rnd h2 h3 (by omega) h4)
  have KNM := Lib.hid (nominal_c fq)
  have HGOOD := Lib.hid (fun m (hm : m ≤ n) (h : ∀ j, j < m → GoodSt sch (l.getD j st0)) => year_good (rnd := rnd) (nom := nomI fq) (fun j hj => hok j (by rw [HS.out.1]; exact hj)) ⟨hn0, hn1⟩ l m (by omega) h m (Nat.le_refl _))
  have HUNF := Lib.hid (fun i hi h1 h2 h3 => year_unfit (rnd := rnd) (nom := nomI fq) l i hi h1 h2 (sch := sch) h3)
  have HCM : Hid ((n : Int) ≤ cntI fq 366) := by unfold Hid; omega
  have v : decide (cntI fq 366 < (n : Int)) = false := by simpa using hmc
  generalize hgc : cntI fq 366 = cn at *
  generalize nomI fq = nf at *
  clear hmc hn2 hn3 hok hgc h60
  obtain ⟨p0, p1, p2, p3, p4⟩ := z3.all5
  go_wp2_with fail
  refine (KY.out _ (HS.out.below hb6) HY3.out (RowSl.below HL.out hb6)).mono ?_
  intro e w4 hyr4
  obtain ⟨⟨A4, m4, c4, e4, rfl, hyc⟩, hb7⟩ := YC.of hyr4
  clear hyr4
  have HYC := Lib.hid hyc
  have HY4 := Lib.hid (HY3.out.t hb7)
  have z4 := z3.t hb7
  have hb8 := bT hb6 hb7
  clear hyc p0 p1 p2 p3 p4
  go_wp2_with fail
  refine (HCN.out _ HY4.out).mono ?_
  rintro e w5 ⟨rfl, rfl⟩
  have HS0 : Hid (sumX l 0 = 0) := rfl
  have HLN := Lib.hid HL.out.1
  go_wp2_with fail
  go_loopw [11, 12, 13, 72] (fun vc vt sm i wr => ∃ k : Nat, k ≤ n ∧ i = .int .i64 k ∧ sm = .int .i64 (sumX l k) ∧ Hid (∀ j, j < k → GoodSt sch (l.getD j st0)) ∧ OwnCd wr w4.heap.size vc k ((l.take k).map (·.c)) ∧ OwnI wr w4.heap.size vt k ((l.take k).map (·.x)) ∧ Below w4.heap.size w4 wr) (fun _ _ _ i _ => n - (intOf i).toNat)
  case atStart => exact ⟨0, Nat.zero_le _, rfl, by rw [HS0.out], fun j hj => absurd hj (by omega), ⟨rfl, World.ownsRow_nil _ _ _ _⟩, ⟨rfl, World.ownsRow_nil _ _ _ _⟩, b0 _⟩
  case round =>
    obtain ⟨k, hk', rfl, rfl, HG, hoc, hox, hbl⟩ := hrel
    have hB := bT hb8 hbl
    have hsz := hbl.size
    by_cases hk : k < n
    · obtain ⟨bl, ol, rfl, hltl, hatl⟩ := HL.out.2.2 (by omega)
      have hcl := hatl k hk
      have HSX : Hid (sumX l (k + 1) = sumX l k + (l.getD k st0).x) := rfl
      have HSB := Lib.hid (sumX_bd l k (fun j hj => ⟨(HG.out j hj).1, (HG.out j hj).2.1⟩) k (Nat.le_refl _))
      have HMC := Lib.hid (map_take_snoc (fun z : St => z.c) l k st0 (by rw [← HLN.out]; exact hk))
      have HMX := Lib.hid (map_take_snoc (fun z : St => z.x) l k st0 (by rw [← HLN.out]; exact hk))
      have HU := Lib.hid (HUNF.out k (by omega) HG.out)
      have HG1 := Lib.hid ((HGOOD.out k hk' HG.out).2)
      have HGS : Hid (GoodSt sch (l.getD k st0) → ∀ j, j < k + 1 → GoodSt sch (l.getD j st0)) := fun h j hj => by
        rcases (by omega : j = k ∨ j < k) with rfl | hj
        · exact h
        · exact HG.out j hj
      have HFT : Hid (fitE sch (l.getD k st0).c = fitE sch (l.getD k st0).c) := rfl
      generalize l.getD k st0 = zz at *
      obtain ⟨⟨s, kd, a, f, al⟩, x⟩ := zz
      obtain ⟨c0, c1, c2, c3, c4', c5⟩ : wr.cell? ⟨bl, ol + k * 6, none⟩ = some (.int .i64 s) ∧ wr.cell? ⟨bl, ol + k * 6 + 1, none⟩ = some (.int .i64 kd) ∧ wr.cell? ⟨bl, ol + k * 6 + 2, none⟩ = some (.int .i64 a) ∧ wr.cell? ⟨bl, ol + k * 6 + 3, none⟩ = some (.int .i64 f) ∧ wr.cell? ⟨bl, ol + k * 6 + 4, none⟩ = some (.bool al) ∧ wr.cell? ⟨bl, ol + k * 6 + 5, none⟩ = some (.int .i64 x) := ⟨(hB.cell (p := ⟨bl, _, none⟩) hltl).trans (hcl 0 _ rfl), (hB.cell (p := ⟨bl, _, none⟩) hltl).trans (hcl 1 _ rfl), (hB.cell (p := ⟨bl, _, none⟩) hltl).trans (hcl 2 _ rfl), (hB.cell (p := ⟨bl, _, none⟩) hltl).trans (hcl 3 _ rfl), (hB.cell (p := ⟨bl, _, none⟩) hltl).trans (hcl 4 _ rfl), (hB.cell (p := ⟨bl, _, none⟩) hltl).trans (hcl 5 _ rfl)⟩
      clear hatl hcl HFT
      have hbx := bA hbl (.cells #[.int .i64 s, .int .i64 kd, .int .i64 a, .int .i64 f, .bool al, .int .i64 x] 42)
      have hBx := bA hB (.cells #[.int .i64 s, .int .i64 kd, .int .i64 a, .int .i64 f, .bool al, .int .i64 x] 42)
      have HO1 := Lib.hid hoc.1
      have HO2 := Lib.hid hox.1
      have HOC := Lib.hid (hoc.2.alloc (.cells #[.int .i64 s, .int .i64 kd, .int .i64 a, .int .i64 f, .bool al, .int .i64 x] 42))
      have HOX := Lib.hid (hox.2.alloc (.cells #[.int .i64 s, .int .i64 kd, .int .i64 a, .int .i64 f, .bool al, .int .i64 x] 42))
      have yb := Blk.mk wr 42 #[.int .i64 s, .int .i64 kd, .int .i64 a, .int .i64 f, .bool al, .int .i64 x]
      clear hoc hox
      by_cases g1 : 1000000000 < x
      · have vx : decide (1000000000 < x) = true := by simpa using g1
        clear g1
        go_wp2_with fail
        go_ret
        exact ⟨rfl, hBx⟩
      have vx : decide (1000000000 < x) = false := by simpa using g1
      by_cases g2 : x < -1000000000
      · have vy : decide (x < -1000000000) = true := by simpa using g2
        clear g1 g2
        go_wp2_with fail
        go_ret
        exact ⟨rfl, hBx⟩
      have vy : decide (x < -1000000000) = false := by simpa using g2
      have x0 : -1000000000 ≤ x := by omega
      have x1 : x ≤ 1000000000 := by omega
      clear g1 g2
      obtain ⟨r, hr⟩ : ∃ r, r = fitE sch ⟨s, kd, a, f, al⟩ := ⟨_, rfl⟩
      have KF := Lib.hid (fun W h => tfits_c sch As Ac Ak ns cs nc cc nk ck lim rnd s kd a f al W h r hr)
      obtain ⟨p0, p1, p2, p3, p4⟩ := ((z4.t hbl).alloc (.cells #[.int .i64 s, .int .i64 kd, .int .i64 a, .int .i64 f, .bool al, .int .i64 x] 42)).all5
      have hb9 := bA hb8 (.cells #[.int .i64 s, .int .i64 kd, .int .i64 a, .int .i64 f, .bool al, .int .i64 x] 42)
      by_cases hr0 : r = 0
      case neg =>
        have hbad := HYC.out.bad k hk HG1.out (by rw [HU.out ⟨x0, x1⟩ (by rw [← hr]; exact hr0), ← hr]; exact hr0)
        rw [HU.out ⟨x0, x1⟩ (by rw [← hr]; exact hr0), ← hr] at hbad
        obtain ⟨he, hm⟩ := hbad
        have u : (r != 0) = true := by simpa using hr0
        rw [he]
        subst hm
        clear hr hr0 HYC
        go_wp2_with fail
        refine (KF.out _ (HS.out.below hBx)).mono ?_
        rintro e w6 ⟨rfl, hb10⟩
        go_wp2_with fail
        go_ret
        exact ⟨rfl, bT hBx hb10⟩
      subst hr0
      have hgood := HGS.out ⟨x0, x1, hr.symm⟩
      have HGD := Lib.hid hgood
      have hsb := HSB.out
      obtain ⟨sb0, sb1⟩ := hsb
      have hk60 : (k : Int) ≤ 60 := by omega
      generalize sumX l k = sx at *
      dsimp only at HSX
      clear hr hgood
      go_wp2_with fail
      refine (KF.out _ (HS.out.below hBx)).mono ?_
      rintro e w6 ⟨rfl, hb10⟩
      have hbl6 := bT hbx hb10
      have HOC6 := Lib.hid (own_below HOC.out hb10)
      have HOX6 := Lib.hid (own_below HOX.out hb10)
      have yb6 := yb.t hb10
      obtain ⟨q0, q1, q2, q3, q4, q5⟩ := yb6.all6
      have hsz6 := hbl6.size
      clear p0 p1 p2 p3 p4 c0 c1 c2 c3 c4' c5
      go_wp2_with (first
        | (at_builtin; refine wpList_app1 _ rfl (.tmp 102) (.tmp 105) 75 rfl 40 _ 5 40 Try.underlying75 info_code rfl (by decide) rfl HOC6.out _ rfl (by first | rfl | simp) rfl (by simp [Value.oneCell']) (by omega) (by omega) (by first | omega | (simp; omega)) ?_; intro vc' w7 hoc7 hg7; have hbl7 := bP hbl6 HOC6.out hg7 (Nat.le_refl _); have HOX7 := Lib.hid (HOX6.out.kept hg7 (own_own HOX6.out HOC6.out (by decide))); have yb7 := yb6.grown hg7 (own_blk HOC6.out yb6 (by decide)); have q1' := yb7.cell 5; have hsz7 := hbl7.size; have HOC7 := Lib.hid hoc7; clear hoc7 q0 q1 q2 q3 q4 q5)
        | (at_builtin; refine wpList_app1 _ rfl (.tmp 107) (.tmp 110) 28 rfl 2 _ 1 8 Try.underlying28 info_i64 rfl (by decide) rfl HOX7.out _ rfl (by first | rfl | simp) rfl (by simp [Value.oneCell']) (by omega) (by omega) (by first | omega | (simp; omega)) ?_; intro vt' w8 hox8 hg8; have HOX8 := Lib.hid hox8; clear hox8))
      go_roundw
      case rel =>
        have HOC8 := HOC7.out.kept hg8 (own_own HOC7.out HOX7.out (by decide))
        refine ⟨k + 1, by omega, by go_num, by rw [HSX.out], HGD.out, ⟨?_, ?_⟩, ⟨?_, ?_⟩, bP hbl7 HOX7.out hg8 (Nat.le_refl _)⟩
        · rw [HMC.out, List.length_append, ← HO1.out]; rfl
        · rw [HMC.out, List.flatMap_append]; simpa [cdC] using HOC8
        · rw [HMX.out, List.length_append, ← HO2.out]; rfl
        · rw [HMX.out, List.map_append]; simpa using HOX8.out
      case measure => simp [intOf]; omega
    obtain rfl : k = n := by omega
    obtain ⟨wo, rfl⟩ : ∃ wo : World, wo = wr := ⟨_, rfl⟩
    obtain ⟨he4, hm4, hgot⟩ := HYC.out.good (HGOOD.out k (Nat.le_refl _) HG.out).2
    have HYZ := Lib.hid (HGOOD.out k (Nat.le_refl _) HG.out).2
    have htk : l.take k = l := List.take_of_length_le (by rw [← HLN.out]; exact Nat.le_refl _)
    rw [htk] at hoc hox
    obtain ⟨Ac2, cc2, rfl, hcs⟩ := hoc.sl
    obtain ⟨Ax2, cx2, rfl, _, hxs⟩ := hox.sl
    have HCS := Lib.hid hcs
    have HXS := Lib.hid hxs
    subst he4
    have hm5 := hm4.symm
    clear hm4
    subst hm5
    have HGOT := Lib.hid (hgot.below hbl)
    have z5 := z4.t hbl
    have HY5 := Lib.hid (HY4.out.t hbl)
    have KRY1 := Lib.hid (fun W (h : Below wo.heap.size wo W) => KRY.out Ac2 Ax2 cc2 cx2 W (HS.out.below (bT hB h)) (RowSl.below HCS.out h) (HXS.out.below h) HYZ.out)
    have G : Hid (∀ W, Below wo.heap.size wo W → Below wo.heap.size wo W ∧ (W.cell? ⟨w.heap.size, 0, none⟩ = some (.slice As ns cs) ∧ W.cell? ⟨w.heap.size, 1, none⟩ = some (.slice Ac nc cc) ∧ W.cell? ⟨w.heap.size, 2, none⟩ = some (.slice Ak nk ck) ∧ W.cell? ⟨w.heap.size, 3, none⟩ = some (.int .i64 lim) ∧ W.cell? ⟨w.heap.size, 4, none⟩ = some (.int .i64 rnd))) := fun W hW => ⟨hW, (z5.t hW).all5⟩
    clear hoc hox hcs hxs hgot htk hsz
    go_wp2_with fail
    go_region_held3 (fun W => Below wo.heap.size wo W ∧ (W.cell? ⟨w.heap.size, 0, none⟩ = some (.slice As ns cs) ∧ W.cell? ⟨w.heap.size, 1, none⟩ = some (.slice Ac nc cc) ∧ W.cell? ⟨w.heap.size, 2, none⟩ = some (.slice Ak nk ck) ∧ W.cell? ⟨w.heap.size, 3, none⟩ = some (.int .i64 lim) ∧ W.cell? ⟨w.heap.size, 4, none⟩ = some (.int .i64 rnd)))
      (first | assumption | exact G.out _ (b0 _).drew | (exact sK G.out (by assumption) (by assumption)) | (exact sK G.out (by assumption) (b0 _)))
      (first
        | (go_at_call 29; (with_reducible refine (KNM.out _).mono ?_); rintro e w6 ⟨rfl, rfl⟩)
        | (go_at_call 28; (with_reducible refine (KRY1.out _ (show Below wo.heap.size wo _ ∧ _ from by assumption).1).mono ?_); rintro e w6 ⟨⟨vw, rfl, hvw⟩, hb9⟩))
    all_goals
      have hb10 := (show Below wo.heap.size wo w6 ∧ _ from by assumption).1
      have hB10 := bT hB hb10
      obtain ⟨A6, c6, rfl, _, hws⟩ := hvw.sl
      have HWS := Lib.hid hws
      have HGOT6 := Lib.hid (HGOT.out.below hb10)
      have HXS6 := Lib.hid (HXS.out.below hb10)
      have HY6 := Lib.hid (HY5.out.t hb10)
      have z6 := z5.t hb10
      have HD0 : Hid (dueA sch rnd nf l 0 = 0) := rfl
      have HSBD := Lib.hid (sumX_bd l k (fun j hj => ⟨(HG.out j hj).1, (HG.out j hj).2.1⟩))
      have HZL := Lib.hid HL.out.2.2
      clear hvw hws G
      go_wp2_with fail
      go_loopw [18, 19, 130] (fun sm ah i wr => ∃ q : Nat, q ≤ k ∧ i = .int .i64 q ∧ sm = .int .i64 (sumX l q) ∧ ah = .int .i64 (dueA sch rnd nf l q) ∧ Below w6.heap.size w6 wr) (fun _ _ i _ => k - (intOf i).toNat)
      case atStart => exact ⟨0, Nat.zero_le _, rfl, by rw [HS0.out], by rw [HD0.out], b0 _⟩
      case round =>
        obtain ⟨q, hq', rfl, rfl, rfl, hbq⟩ := hrel
        have hBq := bT hB10 hbq
        by_cases hq : q < k
        · obtain ⟨bl, ol, rfl, hltl, hatl⟩ := HZL.out (by omega)
          have hcl := hatl q hq
          obtain ⟨bx, ox, rfl, hltx, hatx⟩ := (HXS6.out.below hbq).2.2 (by omega)
          have hcx := hatx q hq
          rw [map_getD (·.x) l q st0 0 (by rw [← HLN.out]; exact hq)] at hcx
          obtain ⟨bg, og, rfl, hltg, hatg⟩ := HGOT6.out.2.2 (by omega)
          have hcg := hatg q hq
          rw [dueL_get _ _ _ _ _ _ hq] at hcg
          obtain ⟨bw, ow, rfl, hltw, hatw⟩ := HWS.out.2.2 (by omega)
          have hcw := hatw q hq
          rw [dueL_get _ _ _ _ _ _ hq] at hcw
          have HSX : Hid (sumX l (q + 1) = sumX l q + (l.getD q st0).x) := rfl
          have HDA : Hid (dueA sch rnd nf l (q + 1) = nextV sch rnd nf ((q : Int) + 1) (l.getD q st0) (sumX l q + (l.getD q st0).x) (dueA sch rnd nf l q)) := rfl
          have HNE := Lib.hid (yE_zero (HYZ.out q hq)).2.2.2
          have hs1 := HSBD.out (q + 1) (by omega)
          rw [HSX.out] at hs1
          obtain ⟨hs1a, hs1b⟩ := hs1
          have hgx := HG.out q hq
          obtain ⟨hgx0, hgx1, _⟩ := hgx
          have hj : 1 ≤ (q : Int) + 1 ∧ (q : Int) + 1 ≤ cn := by have := HCM.out; omega
          generalize l.getD q st0 = zz at *
          obtain ⟨⟨s, kd, a, f, al⟩, x⟩ := zz
          dsimp only at hcx hs1a hs1b hgx0 hgx1 HSX
          have HCE : Hid (∀ W, Below w.heap.size w W → (W.cell? ⟨bl, ol + q * 6, none⟩ = some (.int .i64 s) ∧ W.cell? ⟨bl, ol + q * 6 + 1, none⟩ = some (.int .i64 kd) ∧ W.cell? ⟨bl, ol + q * 6 + 2, none⟩ = some (.int .i64 a) ∧ W.cell? ⟨bl, ol + q * 6 + 3, none⟩ = some (.int .i64 f) ∧ W.cell? ⟨bl, ol + q * 6 + 4, none⟩ = some (.bool al) ∧ W.cell? ⟨bl, ol + q * 6 + 5, none⟩ = some (.int .i64 x))) := fun W hW => ⟨(hW.cell (p := ⟨bl, _, none⟩) hltl).trans (hcl 0 _ rfl), (hW.cell (p := ⟨bl, _, none⟩) hltl).trans (hcl 1 _ rfl), (hW.cell (p := ⟨bl, _, none⟩) hltl).trans (hcl 2 _ rfl), (hW.cell (p := ⟨bl, _, none⟩) hltl).trans (hcl 3 _ rfl), (hW.cell (p := ⟨bl, _, none⟩) hltl).trans (hcl 4 _ rfl), (hW.cell (p := ⟨bl, _, none⟩) hltl).trans (hcl 5 _ rfl)⟩
          have KX1 := Lib.hid (fun W h1 h2 => KX.out ((q : Int) + 1) s kd a f al x (sumX l q + x) (dueA sch rnd nf l q) W h1 h2 hj HNE.out _ HDA)
          have kk1 : IntKind.i64.wrap ((q : Int) + 1) = (q : Int) + 1 := by rw [IntKind.wrap_i64]; omega
          have kk2 : 0 ≤ (q : Int) + 1 := by omega
          have kk5 : ((q : Int)).toNat = q := by omega
          have kk6 : (q : Int) < (k : Int) := by omega
          have kk7 : (0 : Int) ≤ (q : Int) := by omega
          have z7 := z6.t hbq
          have G : Hid (∀ W, Below wr.heap.size wr W → Below wr.heap.size wr W ∧ (W.cell? ⟨w.heap.size, 0, none⟩ = some (.slice As ns cs) ∧ W.cell? ⟨w.heap.size, 1, none⟩ = some (.slice Ac nc cc) ∧ W.cell? ⟨w.heap.size, 2, none⟩ = some (.slice Ak nk ck) ∧ W.cell? ⟨w.heap.size, 3, none⟩ = some (.int .i64 lim) ∧ W.cell? ⟨w.heap.size, 4, none⟩ = some (.int .i64 rnd)) ∧ (W.cell? ⟨bl, ol + q * 6, none⟩ = some (.int .i64 s) ∧ W.cell? ⟨bl, ol + q * 6 + 1, none⟩ = some (.int .i64 kd) ∧ W.cell? ⟨bl, ol + q * 6 + 2, none⟩ = some (.int .i64 a) ∧ W.cell? ⟨bl, ol + q * 6 + 3, none⟩ = some (.int .i64 f) ∧ W.cell? ⟨bl, ol + q * 6 + 4, none⟩ = some (.bool al) ∧ W.cell? ⟨bl, ol + q * 6 + 5, none⟩ = some (.int .i64 x))) := fun W hW => ⟨hW, (z7.t hW).all5, HCE.out W (bT hBq hW)⟩
          generalize sumX l q = sq at *
          generalize dueA sch rnd nf l q = dq at *
          generalize hdn : dueA sch rnd nf l (q + 1) = dn at *
          have HDN := Lib.hid hdn
          clear hdn hatl hcl hatx hatg hatw hj
          go_wp2_with fail
          go_region_held3 (fun W => Below wr.heap.size wr W ∧ (W.cell? ⟨w.heap.size, 0, none⟩ = some (.slice As ns cs) ∧ W.cell? ⟨w.heap.size, 1, none⟩ = some (.slice Ac nc cc) ∧ W.cell? ⟨w.heap.size, 2, none⟩ = some (.slice Ak nk ck) ∧ W.cell? ⟨w.heap.size, 3, none⟩ = some (.int .i64 lim) ∧ W.cell? ⟨w.heap.size, 4, none⟩ = some (.int .i64 rnd)) ∧ (W.cell? ⟨bl, ol + q * 6, none⟩ = some (.int .i64 s) ∧ W.cell? ⟨bl, ol + q * 6 + 1, none⟩ = some (.int .i64 kd) ∧ W.cell? ⟨bl, ol + q * 6 + 2, none⟩ = some (.int .i64 a) ∧ W.cell? ⟨bl, ol + q * 6 + 3, none⟩ = some (.int .i64 f) ∧ W.cell? ⟨bl, ol + q * 6 + 4, none⟩ = some (.bool al) ∧ W.cell? ⟨bl, ol + q * 6 + 5, none⟩ = some (.int .i64 x)))
            (first | assumption | exact G.out _ (b0 _).drew | (exact sK G.out (by assumption) (by assumption)))
            (first
              | (go_at_call 30; (with_reducible refine (KX1.out _ (HS.out.below (bT hBq (show Below wr.heap.size wr _ ∧ _ from by assumption).1)) (HY6.out.t (bT hbq (show Below wr.heap.size wr _ ∧ _ from by assumption).1))).mono ?_); rintro e w9 ⟨rfl, hb11⟩))
          all_goals
            have hb12 := (show Below wr.heap.size wr w9 ∧ _ from by assumption).1
            have hbg := ((bT hbq hb12).cell (p := ⟨bg, _, none⟩) hltg).trans hcg
            have hbw := ((bT hbq hb12).cell (p := ⟨bw, _, none⟩) hltw).trans hcw
            clear hcg hcw hcx G
            go_wp2_with fail
            go_quiet (fail)
            go_wp2_with fail
            go_roundw
            case rel => exact ⟨q + 1, by omega, by go_num, by rw [HSX.out], by rw [HDN.out], bD (bT hbq hb12) _⟩
            case measure => simp [intOf]; omega
        obtain rfl : q = k := by omega
        have KXR1 := Lib.hid (KXR.out 0 0 0 0 false 0 0 0 _ (HY6.out.t hbq))
        obtain ⟨p0, p1, p2, p3, p4⟩ := (z6.t hbq).all5
        go_wp2_with fail
        refine KXR1.out.mono ?_
        rintro e w9 ⟨rfl, hb11⟩
        go_wp2_with fail
        go_ret
        exact ⟨rfl, bT hBq hb11⟩
--%%
end Go.Proofs.Ytlfeppbhicmeoaa
