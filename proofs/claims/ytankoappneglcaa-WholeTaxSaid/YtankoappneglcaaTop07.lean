/-
  The law WholeTax: its walk. Conditions as named.
-/
import Derived.Test.YtankoappneglcaaTop07P
import Derived.Test.YtankoappneglcaaHold
import Derived.Test.YtankoappneglcaaLight
import Derived.Test.YtankoappneglcaaCode3
import Derived.Deep.RegionHeld3
import Derived.Deep.QuietTactic
import Derived.BigQuiet
namespace Go.Proofs.Ytankoappneglcaa
set_option linter.unusedVariables false
open Go.RowKit
def OwnPy (w : World) (base : Nat) (v : Value) (n : Nat) (l : List Py) : Prop := n = l.length ∧ w.ownsRow base 48 3 v n (l.flatMap pyC)
theorem info_pay : (Try.prog.info? 48).map (fun i => (i.zero, i.size, i.bytes)) = some (some (.agg #[.int .i64 0, .int .i64 0, .bool false]), 3, 24) := by kernel_rfl
theorem OwnPy.sl {w : World} {base : Nat} {n c : Nat} {A : Option Addr} {l : List Py} (h : OwnPy w base (.slice A n c) n l) : PySl w A n l := by
  obtain ⟨A', c', he, _, hs⟩ := own_sl pyC 3 py0 pyC_len h.2 h.1 (by decide)
  injection he with h1 _ _
  subst h1
  exact hs
theorem lim_five : limI 5000 10 = 5 := by decide
--%%
set_option maxRecDepth 100000 in
set_option maxHeartbeats 12800000 in
theorem wholeTax_walk (sch : List (List Bd)) (cts : List Ct) (kds : List Kd) (As Ac Ak Al Ax : Option Addr) (ns cs nc cc nk ck n cl m cx : Nat) (lim rnd : Int) (l : List St) (cash : List Int) (w : World) (hs : ScSl w As ns sch) (hc : CtSl w Ac nc cts) (hcc : nc ≤ cc) (hk : KdSl w Ak nk kds) (hck : nk ≤ ck) (hl : StSl w Al n l) (hx : I64Sl w Ax m cash) :
    Calls Try.prog 3 #[.agg #[.slice As ns cs, .slice Ac nc cc, .slice Ak nk ck, .int .i64 lim, .int .i64 rnd], .slice Al n cl, .slice Ax m cx] w fun e w' => e = .returned (.bool true) ∧ Below w.heap.size w w' := by
  have HB0 := Lib.hid (below1 w (.cells #[.slice As ns cs, .slice Ac nc cc, .slice Ak nk ck, .int .i64 lim, .int .i64 rnd] 26))
  have HZ := Lib.hid (Blk.mk w 26 #[.slice As ns cs, .slice Ac nc cc, .slice Ak nk ck, .int .i64 lim, .int .i64 rnd])
  have HS := Lib.hid hs
  have HC := Lib.hid hc
  have HK := Lib.hid hk
  have HL := Lib.hid hl
  have HX := Lib.hid hx
  have hn9 := hl.2.1
  have hm9 := hx.2.1
  have K0 := Lib.hid (hlimit_c none none none 0 0 0 0 0 0 5000 0 10 · (by decide) ⟨by decide, by decide⟩)
  rw [lim_five] at K0
  have KN := Lib.hid (new2024_yes 4 (by decide))
  clear hs hc hk hl hx
  go_enter Try.func3, Try.ntmps3
  go_wp2_with fail
  refine (K0.out _).mono ?_
  rintro e w1 ⟨rfl, hb1⟩
  have HB1 := Lib.hid (bT HB0.out hb1)
  have HZ1 := Lib.hid (HZ.out.t hb1)
  clear hb1
  go_wp2_with fail
  refine (KN.out _).mono ?_
  rintro e w2 ⟨⟨gy, rfl, hyr, hg1, hg2⟩, hb2⟩
  have HB2 := Lib.hid (bT HB1.out hb2)
  have HZ2 := Lib.hid (HZ1.out.t hb2)
  have HY2 := Lib.hid hyr
  clear hb2 hyr
  obtain ⟨p0, p1, p2, p3, p4⟩ := HZ2.out.all5
  go_wp2_with fail
  refine (light_c sch cts kds As Ac Ak ns cs nc cc nk ck lim rnd _ (HS.out.below HB2.out) (HC.out.below HB2.out) (HK.out.below HB2.out)).mono ?_
  rintro e w3 ⟨lb, ⟨rfl, _⟩, hb3⟩
  have HB3 := Lib.hid (bT HB2.out hb3)
  have HZ3 := Lib.hid (HZ2.out.t hb3)
  have HY3 := Lib.hid (HY2.out.t hb3)
  clear hb3 p0 p1 p2 p3 p4
  cases lb with
  | false =>
    go_wp2_with fail
    go_ret
    exact ⟨rfl, HB3.out⟩
  | true =>
    obtain ⟨p0, p1, p2, p3, p4⟩ := HZ3.out.all5
    go_wp2_with fail
    refine (tcheck_c sch cts kds As Ac Ak ns cs nc cc nk ck lim rnd _ (HS.out.below HB3.out) (HC.out.below HB3.out) hcc (HK.out.below HB3.out) hck).mono ?_
    rintro e w4 ⟨rc, ⟨rfl, hrc⟩, hb4⟩
    have HB4 := Lib.hid (bT HB3.out hb4)
    have HZ4 := Lib.hid (HZ3.out.t hb4)
    have HY4 := Lib.hid (HY3.out.t hb4)
    have HR := Lib.hid hrc
    clear hb4 hrc p0 p1 p2 p3 p4
    by_cases hz : rc = 0
    case neg =>
      have u : (rc != 0) = true := by simpa using hz
      clear hz
      go_wp2_with fail
      go_ret
      exact ⟨rfl, HB4.out⟩
    subst hz
    have HOK := Lib.hid (HR.out rfl)
    clear HR
    by_cases h12 : 12 < n
    case pos =>
      have v : decide ((12 : Int) < (n : Int)) = true := by simp; omega
      clear h12
      go_wp2_with fail
      go_ret
      exact ⟨rfl, HB4.out⟩
    have v12 : decide ((12 : Int) < (n : Int)) = false := by simp; omega
    by_cases hmn : m = n
    case neg =>
      have v : ((m : Int) != (n : Int)) = true := by simp; omega
      clear hmn h12
      go_wp2_with fail
      go_ret
      exact ⟨rfl, HB4.out⟩
    subst hmn
    have vmm : ((m : Int) != (m : Int)) = false := by simp
    have hok : ∀ k, k < sch.length → bandsErr (sch.getD k []) = 0 := fun k hk => (HOK.out.sch k hk).bands
    have hlr := rateB_iff.1 HOK.out.lim
    have HLR := Lib.hid hlr
    have HOK2 := Lib.hid hok
    clear hok
    have n12 : m ≤ 12 := by omega
    go_wp2_with fail
    go_loopw [72] (fun ci wr => ∃ k : Nat, k ≤ m ∧ ci = .int .i64 k ∧ Hid (∀ j, j < k → GoodSt sch (l.getD j st0) ∧ (-1000000000 ≤ cash.getD j 0 ∧ cash.getD j 0 ≤ 1000000000)) ∧ Below w4.heap.size w4 wr) (fun ci _ => m - (intOf ci).toNat)
    case atStart => exact ⟨0, Nat.zero_le _, rfl, fun j hj => absurd hj (by omega), b0 _⟩
    case round =>
      obtain ⟨k, hk', rfl, HG, hbl⟩ := hrel
      have HBW := Lib.hid (bT HB4.out hbl)
      by_cases hk : k < m
      case pos =>
        obtain ⟨bl, ol, rfl, hltl, hatl⟩ := (HL.out.below HBW.out).2.2 (by omega)
        have hcl := hatl k hk
        obtain ⟨bx, ox, rfl, hltx, hatx⟩ := (HX.out.below HBW.out).2.2 (by omega)
        have hcx := hatx k hk
        have HG2 : Hid (GoodSt sch (l.getD k st0) → (-1000000000 ≤ cash.getD k 0 ∧ cash.getD k 0 ≤ 1000000000) → ∀ j, j < k + 1 → GoodSt sch (l.getD j st0) ∧ (-1000000000 ≤ cash.getD j 0 ∧ cash.getD j 0 ≤ 1000000000)) := fun h1 h2 j hj => by
          rcases (by omega : j = k ∨ j < k) with rfl | hj
          · exact ⟨h1, h2⟩
          · exact HG.out j hj
        generalize l.getD k st0 = zz at *
        generalize cash.getD k 0 = ch at *
        obtain ⟨⟨s, kd, a, f, al⟩, x⟩ := zz
        obtain ⟨c0, c1, c2, c3, c4', c5⟩ : (wr.cell? ⟨bl, ol + k * 6, none⟩ = some (.int .i64 s) ∧ wr.cell? ⟨bl, ol + k * 6 + 1, none⟩ = some (.int .i64 kd) ∧ wr.cell? ⟨bl, ol + k * 6 + 2, none⟩ = some (.int .i64 a) ∧ wr.cell? ⟨bl, ol + k * 6 + 3, none⟩ = some (.int .i64 f) ∧ wr.cell? ⟨bl, ol + k * 6 + 4, none⟩ = some (.bool al) ∧ wr.cell? ⟨bl, ol + k * 6 + 5, none⟩ = some (.int .i64 x)) := ⟨hcl 0 _ rfl, hcl 1 _ rfl, hcl 2 _ rfl, hcl 3 _ rfl, hcl 4 _ rfl, hcl 5 _ rfl⟩
        have HBX := Lib.hid (bA hbl (.cells #[.int .i64 s, .int .i64 kd, .int .i64 a, .int .i64 f, .bool al, .int .i64 x] 42))
        have HBX0 := Lib.hid (bA HBW.out (.cells #[.int .i64 s, .int .i64 kd, .int .i64 a, .int .i64 f, .bool al, .int .i64 x] 42))
        have kk0 : (0 : Int) ≤ (k : Int) := by omega
        have kk1 : (k : Int) < (m : Int) := by omega
        have kk2 : ((k : Int)).toNat = k := by omega
        have HBL := Lib.hid hbl
        clear hatl hcl hatx hbl
        by_cases g1 : 1000000000 < x
        · have v1 : decide (1000000000 < x) = true := by simpa using g1
          clear g1
          go_wp2_with fail
          go_ret
          exact ⟨rfl, HBX0.out⟩
        have v1 : decide (1000000000 < x) = false := by simpa using g1
        by_cases g2 : x < -1000000000
        · have v2 : decide (x < -1000000000) = true := by simpa using g2
          clear g1 g2
          go_wp2_with fail
          go_ret
          exact ⟨rfl, HBX0.out⟩
        have v2 : decide (x < -1000000000) = false := by simpa using g2
        by_cases g3 : 1000000000 < ch
        · have v3 : decide (1000000000 < ch) = true := by simpa using g3
          clear g1 g2 g3
          go_wp2_with fail
          go_ret
          exact ⟨rfl, HBX0.out⟩
        have v3 : decide (1000000000 < ch) = false := by simpa using g3
        by_cases g4 : ch < -1000000000
        · have v4 : decide (ch < -1000000000) = true := by simpa using g4
          clear g1 g2 g3 g4
          go_wp2_with fail
          go_ret
          exact ⟨rfl, HBX0.out⟩
        have v4 : decide (ch < -1000000000) = false := by simpa using g4
        obtain ⟨fe, hfe⟩ : ∃ r, r = fitE sch ⟨s, kd, a, f, al⟩ := ⟨_, rfl⟩
        have HFE := Lib.hid hfe
        have KF := Lib.hid (fun W h => tfits_c sch As Ac Ak ns cs nc cc nk ck lim rnd s kd a f al W h fe HFE)
        obtain ⟨p0, p1, p2, p3, p4⟩ := (HZ4.out.t HBX.out).all5
        have x0 : -1000000000 ≤ x := by omega
        have x1 : x ≤ 1000000000 := by omega
        have h0 : -1000000000 ≤ ch := by omega
        have h1 : ch ≤ 1000000000 := by omega
        clear hfe g1 g2 g3 g4
        go_wp2_with fail
        refine (KF.out _ (HS.out.below HBX0.out)).mono ?_
        rintro e w6 ⟨rfl, hb6⟩
        have HB6 := Lib.hid (bT HBX.out hb6)
        have HB60 := Lib.hid (bT HBX0.out hb6)
        clear hb6 p0 p1 p2 p3 p4
        by_cases hf0 : fe = 0
        case neg =>
          have v5 : (fe != 0) = true := by simpa using hf0
          clear hf0
          go_wp2_with fail
          go_ret
          exact ⟨rfl, HB60.out⟩
        have HG3 := Lib.hid (HG2.out ⟨x0, x1, HFE.out.symm.trans hf0⟩ ⟨h0, h1⟩)
        subst hf0
        go_wp2_with fail
        go_roundw
        case rel => exact ⟨k + 1, by omega, by go_num, HG3.out, HB6.out⟩
        case measure => simp [intOf]; omega
      obtain rfl : m = k := by omega
      have HLS := HS.out.1
      have KY := Lib.hid (fun W h1 h2 h3 => tyear_c sch As Ac Ak Al ns cs nc cc nk ck m cl lim rnd 4 365 (by decide) (by decide) gy l W h1 (fun k hk => HOK2.out k (by rw [← HLS]; exact hk)) HOK.out.rnd h2 h3 (show (m : Int) ≤ 12 by omega) (by omega))
      have hnm : 12 ≤ nomI 4 ∧ nomI 4 ≤ 1000 := by decide
      generalize nomI 4 = nf at *
      have HYG := Lib.hid (year_good (rnd := rnd) HOK2.out hnm l m (by omega) (fun j hj => (HG.out j hj).1) m (Nat.le_refl _)).2
      have HDB := Lib.hid (fun j (hj : j ≤ m) => (year_good (rnd := rnd) HOK2.out hnm l m (by omega) (fun j hj => (HG.out j hj).1) j hj).1)
      have HNM := Lib.hid hnm
      have HZ5 := Lib.hid (HZ4.out.t hbl)
      have HY5 := Lib.hid (HY4.out.t hbl)
      obtain ⟨p0, p1, p2, p3, p4⟩ := HZ5.out.all5
      clear HLS hnm hbl hk hk'
      go_wp2_with fail
      refine (KY.out _ (HS.out.below HBW.out) HY5.out (RowSl.below HL.out HBW.out)).mono ?_
      intro e w5 hyr
      obtain ⟨⟨A5, m5, c5, e5, rfl, hyc⟩, hb5⟩ := YC.of hyr
      obtain ⟨rfl, rfl, hds⟩ := hyc.good HYG.out
      have HD := Lib.hid hds
      have HZ6 := Lib.hid (HZ5.out.t hb5)
      have HB5 := Lib.hid (bT HBW.out hb5)
      clear hyr hyc hds hb5 p0 p1 p2 p3 p4
      go_wp2_with fail
      go_loopw [15, 118] (fun cv ci wr => ∃ (k : Nat) (A1 : Option Addr) (c1 : Nat), k ≤ m5 ∧ ci = .int .i64 k ∧ cv = .slice A1 k c1 ∧ Hid (OwnPy wr w5.heap.size (.slice A1 k c1) k (paysA cash sch rnd nf l k)) ∧ Below w5.heap.size w5 wr) (fun _ ci _ => m5 - (intOf ci).toNat)
      case atStart => exact ⟨0, none, 0, Nat.zero_le _, rfl, rfl, ⟨rfl, World.ownsRow_nil _ _ _ _⟩, b0 _⟩
      case round =>
        obtain ⟨k, A1, c1, hk', rfl, rfl, HO, hbl⟩ := hrel
        have HBV := Lib.hid (bT HB5.out hbl)
        have HBL := Lib.hid hbl
        have hsz := hbl.size
        clear hbl
        by_cases hk : k < m5
        case pos =>
          obtain ⟨bl, ol, rfl, hltl, hatl⟩ := (HL.out.below HB5.out).2.2 (by omega)
          have hcl := hatl k hk
          obtain ⟨bx, ox, rfl, hltx, hatx⟩ := (HX.out.below HB5.out).2.2 (by omega)
          have hcx := hatx k hk
          obtain ⟨bd, od, rfl, hltd, hatd⟩ := HD.out.2.2 (by omega)
          have hcd := hatd k hk
          rw [dueL_get sch rnd nf l m5 k hk] at hcd
          have hg := HG.out k hk
          have hdb := HDB.out (k + 1) (by omega)
          have hrt := round_tax (cash := cash) (sch := sch) (rnd := rnd) (nom := nf) (l := l) HLR.out (k + 1) k rfl (by omega)
          have HPS := Lib.hid (paysA_snoc (cash := cash) (sch := sch) (rnd := rnd) (nom := nf) (l := l) k)
          have hpok := paysA_ok (rnd := rnd) HOK2.out HNM.out (k + 1) (by omega) (fun j hj => HG.out j (by omega))
          have hst := state_ok HLR.out (k + 1) hpok
          have KY2 := Lib.hid (fun A9 c9 W h => hyear_t As Ac Ak A9 ns cs nc cc nk ck (k + 1) c9 lim rnd (paysA cash sch rnd nf l (k + 1)) W HLR.out h hpok (by omega))
          unfold HYearR at KY2
          have HGE := Lib.hid (heldL_get lim (paysA cash sch rnd nf l (k + 1)) (k + 1) k (by omega))
          generalize l.getD k st0 = zz at *
          generalize cash.getD k 0 = ch at *
          generalize dueA sch rnd nf l (k + 1) = dn at *
          generalize heldA lim (paysA cash sch rnd nf l (k + 1)) k = hv at *
          generalize heldL lim (paysA cash sch rnd nf l (k + 1)) (k + 1) = hvl at *
          generalize stateA lim (paysA cash sch rnd nf l (k + 1)) (k + 1) = st at *
          obtain ⟨⟨s, kd, a, f, al⟩, x⟩ := zz
          obtain ⟨sa, sb⟩ := st
          have HCA : Hid (∀ W, Below w5.heap.size w5 W → W.cell? ⟨bl, ol + k * 6 + 4, none⟩ = some (.bool al)) := fun W hW => cK hW (hcl 4 _ rfl)
          have HCX : Hid (∀ W, Below w5.heap.size w5 W → W.cell? ⟨bx, ox + k, none⟩ = some (.int .i64 ch)) := fun W hW => cK hW hcx
          have HCD : Hid (∀ W, Below w5.heap.size w5 W → W.cell? ⟨bd, od + k, none⟩ = some (.int .i64 dn)) := fun W hW => cK hW hcd
          clear hcl hcx hcd hatl hatx hatd
          obtain ⟨_, h0, h1⟩ := hg
          obtain ⟨t1, t2, t3, t4⟩ := hrt
          obtain ⟨⟨s0, s1⟩, s2, s3⟩ := hst
          dsimp only at t1 t2 t3 t4 s0 s1 s2 s3 KY2 HPS
          have KD := Lib.hid (hdue_c sa sb · ⟨by omega, by omega⟩)
          have KLM := Lib.hid (hlimit_c As Ac Ak ns cs nc cc nk ck lim rnd ch · (by omega) HLR.out)
          obtain ⟨v7, w7, hr7, ho7, hg7⟩ := run_app1 (P := Try.prog) wr.drew 46 46 48 _ 3 24 Try.underlying46 info_pay rfl (by decide) (own_drewN HO.out.2 1) #[.int .i64 ch, .int .i64 dn, .bool (!al)] rfl (by simp [Value.oneCell']) (by omega) (by omega) hsz
          obtain ⟨A7, c7, rfl⟩ := own_slice ho7
          have HR7 := Lib.hid hr7
          have HO7 : Hid (OwnPy w7 w5.heap.size (.slice A7 (k + 1) c7) (k + 1) (paysA cash sch rnd nf l (k + 1))) := by
            rw [HPS.out]
            exact ⟨by rw [List.length_append, paysA_len]; rfl, by rw [List.flatMap_append]; simpa [pyC] using ho7⟩
          have HB7 := Lib.hid (bP (bD HBL.out 1) (own_drewN HO.out.2 1) hg7 (Nat.le_refl _))
          have HB70 := Lib.hid (bT HB5.out HB7.out)
          have q1 := HCX.out wr HBL.out
          have q2 := HCD.out wr HBL.out
          have q3 := HCA.out wr HBL.out
          have kk0 : (0 : Int) ≤ (k : Int) := by omega
          have kk1 : (k : Int) < (m5 : Int) := by omega
          have kk2 : ((k : Int)).toNat = k := by omega
          have kk3 : IntKind.i64.wrap ((k : Int) + 1) = (k : Int) + 1 := IntWalk.i64_in _ (by omega)
          have kk4 : (k : Int) < ((k + 1 : Nat) : Int) := by omega
          have kk5 : (((k + 1 : Nat) : Int) != (k : Int) + 1) = false := by simp
          have vd : (sa + sb != dn) = false := by rw [t1]; simp
          have G7 : Hid (∀ W, Below w5.heap.size w5 W → Below w5.heap.size w5 W ∧ (W.cell? ⟨bx, ox + k, none⟩ = some (.int .i64 ch) ∧ W.cell? ⟨bd, od + k, none⟩ = some (.int .i64 dn) ∧ W.cell? ⟨bl, ol + k * 6 + 4, none⟩ = some (.bool al))) := fun W hW => ⟨hW, HCX.out W hW, HCD.out W hW, HCA.out W hW⟩
          clear hr7 ho7 hg7 hdb h0 h1 hpok
          go_wp2_with fail
          go_region_held3 (fun W => Below w5.heap.size w5 W ∧ (W.cell? ⟨bx, ox + k, none⟩ = some (.int .i64 ch) ∧ W.cell? ⟨bd, od + k, none⟩ = some (.int .i64 dn) ∧ W.cell? ⟨bl, ol + k * 6 + 4, none⟩ = some (.bool al)))
            (first | assumption | exact G7.out _ HBL.out.drew | (exact sK G7.out (by assumption) (below1 _ _)) | (exact sK G7.out (by assumption) (by assumption)))
            (first | (have hS7 : (fun W => Below w5.heap.size w5 W ∧ (W.cell? ⟨bx, ox + k, none⟩ = some (.int .i64 ch) ∧ W.cell? ⟨bd, od + k, none⟩ = some (.int .i64 dn) ∧ W.cell? ⟨bl, ol + k * 6 + 4, none⟩ = some (.bool al))) w7 := G7.out w7 HB7.out; refine step_of_run rfl _ _ _ rfl _ _ rfl rfl _ _ HR7.out ?_))
          clear q1 q2 q3
          obtain ⟨p0, p1, p2, p3, p4⟩ := (HZ6.out.t HB7.out).all5
          go_wp2_with fail
          refine (KY2.out A7 c7 _ HO7.out.sl).mono ?_
          rintro e w9 ⟨⟨v9, rfl, ho9⟩, hb9⟩
          obtain ⟨A9, c9, rfl⟩ := own_slice ho9.2
          have HB9 := Lib.hid (bT HB7.out hb9)
          have HB79 := Lib.hid hb9
          obtain ⟨A9', c9', he9, _, hs9⟩ := ho9.sl
          injection he9 with he9 _ _
          subst he9
          obtain ⟨b9, o9, rfl, hlt9, hat9⟩ := hs9.2.2 (by omega)
          have hc9 := hat9 k (by omega)
          rw [HGE.out] at hc9
          have HCH : Hid (∀ W, Below w9.heap.size w9 W → W.cell? ⟨b9, o9 + k, none⟩ = some (.int .i64 hv)) := fun W hW => cK hW hc9
          have y := Blk.mk w9 50 #[.int .i64 sa, .int .i64 sb]
          have HYY := Lib.hid y
          have G : Hid (∀ W, Below ((w9.alloc (.cells #[.int .i64 sa, .int .i64 sb] 50))).heap.size (w9.alloc (.cells #[.int .i64 sa, .int .i64 sb] 50)) W → Below ((w9.alloc (.cells #[.int .i64 sa, .int .i64 sb] 50))).heap.size (w9.alloc (.cells #[.int .i64 sa, .int .i64 sb] 50)) W ∧ (W.cell? ⟨w9.heap.size, 0, none⟩ = some (.int .i64 sa) ∧ W.cell? ⟨w9.heap.size, 1, none⟩ = some (.int .i64 sb)) ∧ W.cell? ⟨bd, od + k, none⟩ = some (.int .i64 dn)) := fun W hW => ⟨hW, ⟨(HYY.out.t hW).cell 0, (HYY.out.t hW).cell 1⟩, HCD.out W (bT (bA HB9.out _) hW)⟩
          clear ho9 hs9 hat9 hc9 hb9 y p0 p1 p2 p3 p4
          go_wp2_with fail
          go_region_held3 (fun W => Below ((w9.alloc (.cells #[.int .i64 sa, .int .i64 sb] 50))).heap.size (w9.alloc (.cells #[.int .i64 sa, .int .i64 sb] 50)) W ∧ (W.cell? ⟨w9.heap.size, 0, none⟩ = some (.int .i64 sa) ∧ W.cell? ⟨w9.heap.size, 1, none⟩ = some (.int .i64 sb)) ∧ W.cell? ⟨bd, od + k, none⟩ = some (.int .i64 dn))
            (first | assumption | exact G.out _ (b0 _).drew | (exact sK G.out (by assumption) (by assumption)))
            (first | (go_at_call 11; (with_reducible refine (KD.out _).mono ?_); rintro e w10 ⟨rfl, hb10⟩))
          all_goals
            have hb11 := (show Below ((w9.alloc (.cells #[.int .i64 sa, .int .i64 sb] 50))).heap.size (w9.alloc (.cells #[.int .i64 sa, .int .i64 sb] 50)) w10 ∧ _ from by assumption).1
            have HBa := Lib.hid (bT (bA HB9.out _) hb11)
            have HBb := Lib.hid (bT (bA (b0 w9) (.cells #[.int .i64 sa, .int .i64 sb] 50)) hb11)
            have G2 : Hid (∀ W, Below w10.heap.size w10 W → Below w10.heap.size w10 W ∧ (W.cell? ⟨w.heap.size, 0, none⟩ = some (.slice As ns cs) ∧ W.cell? ⟨w.heap.size, 1, none⟩ = some (.slice Ac nc cc) ∧ W.cell? ⟨w.heap.size, 2, none⟩ = some (.slice Ak nk ck) ∧ W.cell? ⟨w.heap.size, 3, none⟩ = some (.int .i64 lim) ∧ W.cell? ⟨w.heap.size, 4, none⟩ = some (.int .i64 rnd)) ∧ W.cell? ⟨bx, ox + k, none⟩ = some (.int .i64 ch)) := fun W hW => ⟨hW, (HZ6.out.t (bT HBa.out hW)).all5, HCX.out W (bT HBa.out hW)⟩
            have HBe := Lib.hid hb11
            clear hb11
            generalize limI lim ch = lv at *
            go_wp2_with fail
            go_region_held3 (fun W => Below w10.heap.size w10 W ∧ (W.cell? ⟨w.heap.size, 0, none⟩ = some (.slice As ns cs) ∧ W.cell? ⟨w.heap.size, 1, none⟩ = some (.slice Ac nc cc) ∧ W.cell? ⟨w.heap.size, 2, none⟩ = some (.slice Ak nk ck) ∧ W.cell? ⟨w.heap.size, 3, none⟩ = some (.int .i64 lim) ∧ W.cell? ⟨w.heap.size, 4, none⟩ = some (.int .i64 rnd)) ∧ W.cell? ⟨bx, ox + k, none⟩ = some (.int .i64 ch))
              (first | assumption | exact G2.out _ (b0 _).drew | (exact sK G2.out (by assumption) (by assumption)))
              (first | (go_at_call 4; (with_reducible refine (KLM.out _).mono ?_); rintro e w11 ⟨rfl, hb12⟩))
            all_goals
              have hb13 := (show Below w10.heap.size w10 w11 ∧ _ from by assumption).1
              have HBc := Lib.hid (bT HBa.out hb13)
              have HBd := Lib.hid (bT HBb.out hb13)
              have r1 := HCH.out w11 HBd.out
              have r2 := HCA.out w11 HBc.out
              have r3 := ((HYY.out.t HBe.out).t hb13).cell 1
              clear hb13
              have u1 : decide (lv < hv) = false := by simp; omega
              have HOz : Hid (OwnPy w11 w5.heap.size (.slice A7 (k + 1) c7) (k + 1) (paysA cash sch rnd nf l (k + 1))) := ⟨HO7.out.1, own_below HO7.out.2 (bT HB79.out HBd.out)⟩
              have hcs : (decide (0 < sb) = true ∧ (hv != lv) = false) ∨ decide (0 < sb) = false := by
                by_cases h : 0 < sb
                · exact Or.inl ⟨decide_eq_true h, by rw [t4 h]; simp⟩
                · exact Or.inr (decide_eq_false h)
              have hca : al = false ∨ (al = true ∧ decide (hv < 0) = false) := by
                cases al with
                | false => exact Or.inl rfl
                | true => exact Or.inr ⟨rfl, by have := t3 rfl; simp; omega⟩
              clear t1 t2 t3 t4 s0 s1 s2 s3
              rcases hca with rfl | ⟨rfl, u2⟩
              all_goals
                rcases hcs with ⟨u3, u4⟩ | u3
                all_goals
                  go_wp2_with fail
                  go_roundw
                  case rel => exact ⟨k + 1, A7, c7, by omega, by go_num, rfl, HOz.out, HBc.out⟩
                  case measure => simp [intOf]; omega
        obtain rfl : m5 = k := by omega
        obtain ⟨p0, p1, p2, p3, p4⟩ := (HZ6.out.t HBL.out).all5
        by_cases hm0 : m5 = 0
        · have v0 : ((m5 : Int) == 0) = true := by simp; omega
          clear hm0
          go_wp2_with fail
          go_ret
          exact ⟨rfl, HBV.out⟩
        have v0 : ((m5 : Int) == 0) = false := by simp; omega
        by_cases hl0 : lim = 0
        · have v1 : (lim == 0) = true := by simpa using hl0
          clear hl0 hm0
          go_wp2_with fail
          go_ret
          exact ⟨rfl, HBV.out⟩
        have v1 : (lim == 0) = false := by simpa using hl0
        obtain ⟨bd, od, rfl, hltd, hatd⟩ := HD.out.2.2 (by omega)
        have hcd := hatd (m5 - 1) (by omega)
        rw [dueL_get sch rnd nf l m5 (m5 - 1) (by omega), show m5 - 1 + 1 = m5 by omega] at hcd
        have hdb := HDB.out m5 (Nat.le_refl _)
        have hpok := paysZ_ok (rnd := rnd) HOK2.out HNM.out m5 (by omega) (fun j hj => HG.out j (by omega))
        have hlast := last_tax (rnd := rnd) HOK2.out HNM.out HLR.out m5 (by omega) (fun j hj => HG.out j (by omega))
        have hlb := lim_bd HLR.out (show (100000000000 : Int) ≤ 100000000000 by decide)
        have KY2 := Lib.hid (fun A9 c9 W h => hyear_t As Ac Ak A9 ns cs nc cc nk ck (m5 + 1) c9 lim rnd (paysZ cash sch rnd nf l m5) W HLR.out h hpok (by omega))
        unfold HYearR at KY2
        have KLM := Lib.hid (hlimit_c As Ac Ak ns cs nc cc nk ck lim rnd 100000000000 · (by decide) HLR.out)
        have HPZ : Hid (paysZ cash sch rnd nf l m5 = paysA cash sch rnd nf l m5 ++ [⟨100000000000, dueA sch rnd nf l m5, true⟩]) := rfl
        generalize dueA sch rnd nf l m5 = dz at *
        generalize limI lim 100000000000 = lz at *
        generalize heldL lim (paysZ cash sch rnd nf l m5) (m5 + 1) = hvl at *
        generalize stateA lim (paysZ cash sch rnd nf l m5) (m5 + 1) = st at *
        obtain ⟨sa, sb⟩ := st
        dsimp only at KY2 hlast
        have HCD : Hid (∀ W, Below w5.heap.size w5 W → W.cell? ⟨bd, od + (m5 - 1), none⟩ = some (.int .i64 dz)) := fun W hW => cK hW hcd
        have q2 := HCD.out wr HBL.out
        have kk0 : (0 : Int) ≤ (m5 : Int) - 1 := by omega
        have kk1 : (m5 : Int) - 1 < (m5 : Int) := by omega
        have kk2 : ((m5 : Int) - 1).toNat = m5 - 1 := by omega
        have kk3 : IntKind.i64.wrap ((m5 : Int) - 1) = (m5 : Int) - 1 := IntWalk.i64_in _ (by omega)
        have hcs : (sb == 0) = true ∨ ((sb == 0) = false ∧ decide (0 < sb) = true ∧ decide (lz < dz) = true ∧ decide (-100000000000 < dz - lz) = true) := by
          by_cases h : sb = 0
          · exact Or.inl (by simpa using h)
          · obtain ⟨h1, h2⟩ := hlast h
            exact Or.inr ⟨by simpa using h, decide_eq_true h1, decide_eq_true h2, by simp; omega⟩
        have HCS := Lib.hid hcs
        have HO1 := Lib.hid HO.out.1
        have HO2 := Lib.hid HO.out.2
        have z1 : 0 ≤ dz := by omega
        have z2 : dz ≤ 40000000000 := by omega
        have z3 : 0 ≤ lz := hlb.1
        have z4 : lz ≤ 100000000000 := by omega
        clear hm0 hl0 hatd hcd hdb hpok hlast hlb hcs
        go_wp2_with (at_builtin; refine wpList_app1 _ rfl _ _ 46 rfl 48 _ 3 24 Try.underlying46 info_pay rfl (by decide) rfl HO2.out _ rfl (by first | rfl | simp) rfl (by simp [Value.oneCell']) (by omega) (by omega) (by first | omega | (simp; omega)) ?_; intro v7 w7 ho7 hg7; obtain ⟨A7, c7, rfl⟩ := own_slice ho7; have HO7 := Lib.hid ho7; have HB7 := Lib.hid (bP HBL.out HO2.out hg7 (Nat.le_refl _)); clear ho7 hg7; obtain ⟨r0, r1, r2, r3, r4⟩ := (HZ6.out.t HB7.out).all5)
        have HO7b : Hid (OwnPy w7 w5.heap.size (.slice A7 (m5 + 1) c7) (m5 + 1) (paysZ cash sch rnd nf l m5)) := by
          rw [HPZ.out]
          exact ⟨by rw [List.length_append, paysA_len]; rfl, by rw [List.flatMap_append]; simpa [pyC] using HO7.out⟩
        refine (KY2.out A7 c7 _ HO7b.out.sl).mono ?_
        rintro e w9 ⟨⟨v9, rfl, ho9⟩, hb9⟩
        have HB9 := Lib.hid (bT HB7.out hb9)
        have HYY := Lib.hid (Blk.mk w9 50 #[.int .i64 sa, .int .i64 sb])
        clear ho9 hb9 r0 r1 r2 r3 r4 p0 p1 p2 p3 p4 q2
        obtain ⟨r0, r1, r2, r3, r4⟩ := (HZ6.out.t (bA HB9.out (.cells #[.int .i64 sa, .int .i64 sb] 50))).all5
        go_wp2_with fail
        refine (KLM.out _).mono ?_
        rintro e w10 ⟨rfl, hb10⟩
        have HBa := Lib.hid (bT (bA HB9.out _) hb10)
        have y1 := (HYY.out.t hb10).cell 1
        have q3 := HCD.out w10 HBa.out
        clear r0 r1 r2 r3 r4 hb10
        rcases HCS.out with u1 | ⟨u1, u2, u3, u4⟩
        all_goals
          go_wp2_with fail
          go_ret
          exact ⟨rfl, bT HB5.out HBa.out⟩
--%%
end Go.Proofs.Ytankoappneglcaa
