/-
 Contract of an employee's Tryz. Conditions as named.
-/
import Derived.Test.YtmlphohnegmgkaaGreatM7
namespace Go.Proofs.YtmlphohnegmgkaaGreat
set_option maxRecDepth 100000
set_option maxHeartbeats 25600000
set_option linter.unusedVariables false
set_option linter.unusedSimpArgs false
open Go.RowKit
--%
theorem rtry_c (fq days : Int) (lo li p y o : Nat) (E : Em) (gr : Int) (w : World) (h : EmpAt w lo li fq days p y o E) (hk : EmOK fq days E) (re : Int) (z : Sp) (he : Hid (re = tryE E (nomI fq) (cntI fq days) gr)) (hz : Hid (z = tryV E (nomI fq) gr)) :
  Calls Tryz.prog 64 #[.pointer (some ⟨p, 0, none⟩), .int .i64 gr] w (SlipU re z w) := by
 have HF0 := Lib.hid (Fr.start w)
 have HE0 := Lib.hid h
 have HOK := Lib.hid hk
 obtain ⟨K, ns, nc, nk, nn, ni, hns, hnc, hnk, hnn, hni, hB, hR⟩ := h.letters
 have HB := Lib.hid hB
 have HRW := Lib.hid hR
 have HNS := Lib.hid hns
 have HNC := Lib.hid hnc
 have HNK := Lib.hid hnk
 have HNN := Lib.hid hnn
 have HNI := Lib.hid hni
 have HLT : Hid (p < w.heap.size) := hB.lt
 obtain ⟨E1, hE1⟩ : ∃ E1, E1 = openE E (cntI fq days) := ⟨_, rfl⟩
 have K1 := Lib.hid (fun W (hW : Below w.heap.size w W) => ropen_c fq days lo li p y o E W (h.below hW) hk)
 rw [← hE1] at K1
 unfold ValB at K1
 have htb0 : tbE E.tb = 0 := by
  have htb := hk.tb
  unfold keepE at htb
  by_cases h0 : tbE E.tb = 0
  ·
   exact h0
  ·
   rw [if_pos h0] at htb; exact absurd htb h0
 obtain ⟨hok, hls, hlc, hlk, _⟩ := tb_of htb0
 have hlim := rateB_iff.1 hok.lim
 obtain ⟨E2, hE2⟩ : ∃ E2, E2 = reckE E.tb (nomI fq) gr (tryIn E) := ⟨_, rfl⟩
 obtain ⟨V2, hV2⟩ : ∃ V2, V2 = reckV E.tb (nomI fq) gr (tryIn E) := ⟨_, rfl⟩
 have KW := Lib.hid (fun W (hW : Below w.heap.size w W) => rwith_c fq days lo li p y o E W (h.below hW) (by have := hk.ins53; omega))
 have hni1 : (tryIn E).length = ni + 1 := by unfold tryIn; rw [List.length_append, ← hni]; rfl
 unfold InsWR at KW
 rw [hni1] at KW
 have KR := Lib.hid (fun W (hW : Below w.heap.size w W) (h0 : E1 = 0) (A5 : Option Addr) (c5 : Nat) (hin : InsIn W A5 (ni + 1) (tryIn E)) => (reckon_c E.tb K.As K.Ac K.Ak A5 ns K.cs nc K.cc nk K.ck (ni + 1) c5 E.tb.lim E.tb.rnd fq days K.gy gr (tryIn E) W (by rw [hns]; exact hR.tb.view.s.below hW) (by rw [hnc]; exact hR.tb.view.c.below hW) (by rw [hnk]; exact hR.tb.view.k.below hW) rfl hk.tb hk.f hk.d (hR.gy.t hW) hin (by
  have h1 := hk.ins
  rw [hE1] at h0
  unfold openE at h0
  rw [← hni] at h1 h0
  by_cases h2 : (ni : Int) = cntI fq days
  ·
   rw [if_pos h2] at h0; cases h0
  ·
   omega) E2 V2 hE2 hV2).mono fun _ _ h => h.v hW.size)
 obtain ⟨Ay, cy, By, dy, hyr⟩ := hR.yr
 have hyn := hk.yr
 have KT := Lib.hid (fun W (hW : Below w.heap.size w W) => ytotals_c y lo E.yr Ay cy By dy W (hyr.below hW) (by omega))
 have KP : Hid (E1 = 0 → ∀ W (hW : Below w.heap.size w W), Calls Tryz.prog 36 #[.pointer (some ⟨p, 0, none⟩)] W fun e w' => e = .returned (.int .i64 ((ni : Int) + 1)) ∧ Below W.heap.size W w') := fun h0 W hW => by
  have h1 := rperiod_c fq days lo li p y o E W (h.below hW) hk
  rw [hE1] at h0
  unfold openE at h0
  unfold ValB periodI at h1
  rw [← hni] at h1 h0
  by_cases h2 : (ni : Int) = cntI fq days
  ·
   rw [if_pos h2] at h0; cases h0
  ·
   rw [if_neg h2] at h1; exact h1
 obtain ⟨E3, hE3⟩ : ∃ E3, E3 = rslE E.tb E.yr.t V2 ((ni : Int) + 1) (!E.c.al) := ⟨_, rfl⟩
 have hz3 : Hid (z = rslZ E.tb E.yr.t V2 ((ni : Int) + 1) (!E.c.al)) := hz.out.trans (by unfold tryV; rw [hV2, ← hni])
 have KS := Lib.hid (fun W (A1 : Option Addr) (n1 a1 : Nat) (C : Option Addr) (m b : Nat) (B : Option Addr) (n d : Nat) (hx : ShareSl W C m V2.sh) (hy : ShareSl W B n E.yr.t.rows) (hm : m ≤ 64) => rslip_c E.tb K.As K.Ac K.Ak ns K.cs nc K.cc nk K.ck E.tb.lim E.tb.rnd E.yr.t B n d V2 A1 n1 a1 C m b ((ni : Int) + 1) (!E.c.al) W hlim rfl hx hy hm E3 z hE3 hz3)
 obtain ⟨E4, hE4⟩ : ∃ E4, E4 = ytryE E.yr z := ⟨_, rfl⟩
 have KY := Lib.hid (fun W (hW : Below w.heap.size w W) (A2 : Option Addr) (n2 c2 : Nat) (B2 : Option Addr) (m2 d2 : Nat) (hr : ShareSl W A2 n2 z.rows) (ht : TkSl W B2 m2 z.tk) => ytry_c y lo E.yr Ay cy By dy z A2 B2 n2 c2 m2 d2 W (hyr.below hW) (by omega) (by have := hk.sl; have := hk.ins53; omega) hr ht E4 _ hE4 (Lib.hid rfl))
 have H1 : Hid (re = seqE E1 (seqE E2 (seqE E3 E4))) := he.out.trans (by unfold tryE; rw [hE1, hE2, hE3, hE4, hz.out, hV2, ← hni])
 have HLN : Hid (∀ n m : Nat, n = z.rows.length → m = z.tk.length → n ≤ 9223372036854775807 ∧ m ≤ 9223372036854775807) := fun n m h1 h2 => by
  have h3 : z.rows.length = V2.sh.length := by rw [hz3.out]; unfold rslZ makeZ; exact deltaL_len _ _ _
  have h4 : z.tk.length = 0 := by rw [hz3.out]; rfl
  have h5 : V2.sh.length ≤ 64 := by rw [hV2]; unfold reckV; simp [sumL]; omega
  omega
 have HSHn : Hid (V2.sh.length ≤ 64) := by unfold Hid; rw [hV2]; unfold reckV; simp [sumL]; omega
 unfold ReckR clC at KR
 unfold ToR toC at KT
 unfold SlipU spC clC toC at KS
 unfold TryR spC toC at KY
 unfold SlipU spC
 clear hns hnc hnk hnn hni hB hR
 clear h hk he hz hE1 hE2 hV2 hE3 hz3 hE4 htb0 hok hls hlc hlk hni1 hyr hyn hlim
 have hx := (HF0.out.al 76 #[.int .i64 0, .int .i64 0, .int .i64 0, .int .i64 0, .int .i64 0, .int .i64 0, .slice none 0 0, .int .i64 0, .slice none 0 0, .int .i64 0])
 try simp only [World.size_alloc, World.size_setCell] at hx
 have HF1 := Lib.hid hx
 clear hx HF0
 go_enter Tryz.func64, Tryz.ntmps64
 go_wp2_with fail
 refine (K1.out _ HF1.out.bl).mono ?_
 rintro e W1 ⟨rfl, hb⟩
 have HF2 := Lib.hid (HF1.out.ca hb)
 clear hb HF1
 have qz := HF2.out.b 0 rfl
 have c0_0 := qz.cv 0 (.int .i64 0) rfl
 have f0_0 := qz.free 0
 have c0_1 := qz.cv 1 (.int .i64 0) rfl
 have f0_1 := qz.free 1
 have c0_2 := qz.cv 2 (.int .i64 0) rfl
 have f0_2 := qz.free 2
 have c0_3 := qz.cv 3 (.int .i64 0) rfl
 have f0_3 := qz.free 3
 have c0_4 := qz.cv 4 (.int .i64 0) rfl
 have f0_4 := qz.free 4
 have c0_5 := qz.cv 5 (.int .i64 0) rfl
 have f0_5 := qz.free 5
 have c0_6 := qz.cv 6 (.slice none 0 0) rfl
 have f0_6 := qz.free 6
 have c0_7 := qz.cv 7 (.int .i64 0) rfl
 have f0_7 := qz.free 7
 have c0_8 := qz.cv 8 (.slice none 0 0) rfl
 have f0_8 := qz.free 8
 have c0_9 := qz.cv 9 (.int .i64 0) rfl
 have f0_9 := qz.free 9
 clear qz
 have HE1 : Hid (E1 = 0 → E1 = 0) := fun h => h
 by_cases h0 : E1 = 0
 case neg =>
  have tr : (E1 != 0) = true := by simpa using h0
  have HE := Lib.hid (H1.out.trans (seqE_no h0))
  have HN0 : Hid (re ≠ 0) := by unfold Hid; rw [HE.out]; exact h0
  clear h0
  have qz := HF2.out.b 0 rfl
  have c0_0_2 := qz.cv 0 (.int .i64 0) rfl
  have f0_0_2 := qz.free 0
  have c0_1_2 := qz.cv 1 (.int .i64 0) rfl
  have f0_1_2 := qz.free 1
  have c0_2_2 := qz.cv 2 (.int .i64 0) rfl
  have f0_2_2 := qz.free 2
  have c0_3_2 := qz.cv 3 (.int .i64 0) rfl
  have f0_3_2 := qz.free 3
  have c0_4_2 := qz.cv 4 (.int .i64 0) rfl
  have f0_4_2 := qz.free 4
  have c0_5_2 := qz.cv 5 (.int .i64 0) rfl
  have f0_5_2 := qz.free 5
  have c0_6_2 := qz.cv 6 (.slice none 0 0) rfl
  have f0_6_2 := qz.free 6
  have c0_7_2 := qz.cv 7 (.int .i64 0) rfl
  have f0_7_2 := qz.free 7
  have c0_8_2 := qz.cv 8 (.slice none 0 0) rfl
  have f0_8_2 := qz.free 8
  have c0_9_2 := qz.cv 9 (.int .i64 0) rfl
  have f0_9_2 := qz.free 9
  clear qz
  go_wp2_with fail
  refine bodyPost_ret (v := .tuple #[.agg #[.int .i64 0, .int .i64 0, .int .i64 0, .int .i64 0, .int .i64 0, .int .i64 0, .slice none 0 0, .int .i64 0, .slice none 0 0, .int .i64 0], .int .i64 E1]) (by simp [results, Tryz.results64, go_sem, c0_0, c0_1, c0_2, c0_3, c0_4, c0_5, c0_6, c0_7, c0_8, c0_9, c0_0_2, c0_1_2, c0_2_2, c0_3_2, c0_4_2, c0_5_2, c0_6_2, c0_7_2, c0_8_2, c0_9_2]) rfl ⟨⟨sp0, none, 0, 0, none, 0, 0, by rw [HE.out]; rfl, SlipV.err HN0.out⟩, ?_⟩
  have hg := HF2.out.ge 0 rfl
  exact below_put10 HF2.out.bl hg (.int .i64 0) (.int .i64 0) (.int .i64 0) (.int .i64 0) (.int .i64 0) (.int .i64 0) (.slice none 0 0) (.int .i64 0) (.slice none 0 0) (.int .i64 0)
 replace KR := Lib.hid (fun W hW => KR.out W hW h0)
 replace KP := Lib.hid (KP.out h0)
 have H2 := Lib.hid (H1.out.trans (seqE_ok h0))
 subst h0
 clear HE1 K1
 go_upto_region 4 with fail
 clear c0_0 f0_0 c0_1 f0_1 c0_2 f0_2 c0_3 f0_3 c0_4 f0_4 c0_5 f0_5 c0_6 f0_6 c0_7 f0_7 c0_8 f0_8 c0_9 f0_9
 generalize hwn : W1 = v2 at *
 try clear hwn
 go_cut [7, 8] (fun y0 y1 wx => ∃ (g : Nat) (per : List Bs) (sc st ss ctx : Int) (csh : List Sh) (A1 : Option Addr) (n1 a1 : Nat) (C1 : Option Addr) (m1 b1 : Nat), y0 = .pointer (some ⟨g, 0, none⟩) ∧ y1 = .int .i64 E2 ∧ Hid (Fr w wx [(w.heap.size, 76, #[.int .i64 0, .int .i64 0, .int .i64 0, .int .i64 0, .int .i64 0, .int .i64 0, .slice none 0 0, .int .i64 0, .slice none 0 0, .int .i64 0]), (g, 62, #[.slice A1 n1 a1, .int .i64 sc, .int .i64 st, .int .i64 ss, .int .i64 ctx, .slice C1 m1 b1])]) ∧ Hid (ClnV wx w.heap.size E2 V2 (Cln.mk per (Bs.mk sc st ss) ctx csh) A1 n1 a1 C1 m1 b1))
 case first =>
  go_wp2_with fail
  have G : Hid (∀ W, Fr w W [(w.heap.size, 76, #[.int .i64 0, .int .i64 0, .int .i64 0, .int .i64 0, .int .i64 0, .int .i64 0, .slice none 0 0, .int .i64 0, .slice none 0 0, .int .i64 0])] → Below w.heap.size w W ∧ (W.cell? ⟨p, 0, none⟩ = some (.slice K.As ns K.cs) ∧ W.cell? ⟨p, 1, none⟩ = some (.slice K.Ac nc K.cc) ∧ W.cell? ⟨p, 2, none⟩ = some (.slice K.Ak nk K.ck) ∧ W.cell? ⟨p, 3, none⟩ = some (.int .i64 E.tb.lim) ∧ W.cell? ⟨p, 4, none⟩ = some (.int .i64 E.tb.rnd) ∧ W.cell? ⟨p, 5, none⟩ = some (.pointer (some ⟨K.gy, 0, none⟩)))) := fun W hW => ⟨hW.bl, (HB.out.t hW.bl).cv 0 _ rfl, (HB.out.t hW.bl).cv 1 _ rfl, (HB.out.t hW.bl).cv 2 _ rfl, (HB.out.t hW.bl).cv 3 _ rfl, (HB.out.t hW.bl).cv 4 _ rfl, (HB.out.t hW.bl).cv 5 _ rfl⟩
  have HF3 := Lib.hid (HF2.out.dr)
  refine wp_region_G G 18 (by kernel_rfl) HF3.out (fun hHeld => ?_)
  refine tkF (i := 0) (v := ?v3_1) rfl (Or.inl ⟨by rfl, ?hy3_1⟩) ?rest3_1
  case hy3_1 => (intro w hSw; (try dsimp only at hSw); go_simp; try with_reducible rfl)
  try simp only [gA, gB, gC, pN, pU, pL, pZ, pS]
  refine tkF (i := 1) (v := ?v3_2) rfl (Or.inl ⟨by rfl, ?hy3_2⟩) ?rest3_2
  case hy3_2 => (intro w hSw; (try dsimp only at hSw); go_simp; try with_reducible rfl)
  try simp only [gA, gB, gC, pN, pU, pL, pZ, pS]
  refine tkF (i := 2) (v := ?v3_3) rfl (Or.inl ⟨by rfl, ?hy3_3⟩) ?rest3_3
  case hy3_3 => (intro w hSw; (try dsimp only at hSw); go_simp; try with_reducible rfl)
  try simp only [gA, gB, gC, pN, pU, pL, pZ, pS]
  refine tkF (i := 3) (v := ?v3_4) rfl (Or.inl ⟨by rfl, ?hy3_4⟩) ?rest3_4
  case hy3_4 => (intro w hSw; (try dsimp only at hSw); go_simp; try with_reducible rfl)
  try simp only [gA, gB, gC, pN, pU, pL, pZ, pS]
  refine tkF (i := 4) (v := ?v3_5) rfl (Or.inl ⟨by rfl, ?hy3_5⟩) ?rest3_5
  case hy3_5 => (intro w hSw; (try dsimp only at hSw); go_simp; try with_reducible rfl)
  try simp only [gA, gB, gC, pN, pU, pL, pZ, pS]
  refine tkF (i := 5) (v := ?v3_6) rfl (Or.inl ⟨by rfl, ?hy3_6⟩) ?rest3_6
  case hy3_6 => (intro w hSw; (try dsimp only at hSw); go_simp; try with_reducible rfl)
  try simp only [gA, gB, gC, pN, pU, pL, pZ, pS]
  refine tkF (i := 6) (v := ?v3_7) rfl (Or.inl ⟨by rfl, ?hy3_7⟩) ?rest3_7
  case hy3_7 => (intro w hSw; (try dsimp only at hSw); go_simp; try with_reducible rfl)
  try simp only [gA, gB, gC, pN, pU, pL, pZ, pS]
  refine tkF (i := 7) (v := ?v3_8) rfl (Or.inl ⟨by rfl, ?hy3_8⟩) ?rest3_8
  case hy3_8 => (intro w hSw; (try dsimp only at hSw); go_simp; try with_reducible rfl)
  try simp only [gA, gB, gC, pN, pU, pL, pZ, pS]
  refine tkF (i := 8) (v := ?v3_9) rfl (Or.inl ⟨by rfl, ?hy3_9⟩) ?rest3_9
  case hy3_9 => (intro w hSw; (try dsimp only at hSw); go_simp; try with_reducible rfl)
  try simp only [gA, gB, gC, pN, pU, pL, pZ, pS]
  refine tkF (i := 9) (v := ?v3_10) rfl (Or.inl ⟨by rfl, ?hy3_10⟩) ?rest3_10
  case hy3_10 => (intro w hSw; (try dsimp only at hSw); go_simp; try with_reducible rfl)
  try simp only [gA, gB, gC, pN, pU, pL, pZ, pS]
  refine wpAnyE_two (i := 10) (j := 15) (by kernel_rfl) rfl rfl (fun Kx hK => ?_) (fun Kx hK => ?_)
  ·
   go_simp
   go_at_call 124
   refine (KW.out _ HF3.out.bl).mono ?_
   rintro e W4 ⟨⟨A5, c5, rfl, ho⟩, hb⟩
   have HF4 := Lib.hid (HF3.out.ca hb)
   have HIN := Lib.hid ho.view
   clear ho
   clear hb
   refine hK.out _ _ (G.out _ HF4.out) (fun hHeld => ?_)
   clear hK Kx
   try simp only [gA, gB, gC, pN, pU, pL, pZ, pS]
   refine wpAnyE_two (i := 11) (j := 15) (by kernel_rfl) rfl rfl (fun Kx hK => ?_) (fun Kx hK => ?_)
   ·
    go_simp
    go_at_call 26
    refine (KR.out _ HF4.out.bl A5 c5 HIN.out).mono ?_
    rintro e W5 ⟨⟨⟨per, ⟨sc, st, ss⟩, ctx, csh⟩, A1, n1, a1, C1, m1, b1, rfl, hq⟩, hb⟩
    replace HIN := Lib.hid (HIN.out.below hb)
    have HF5 := Lib.hid (HF4.out.ca hb)
    clear HIN
    have HCL := Lib.hid hq
    clear hq
    clear hb
    refine hK.out _ _ (G.out _ HF5.out) (fun hHeld => ?_)
    clear hK Kx
    try simp only [gA, gB, gC, pN, pU, pL, pZ, pS]
    refine tkF (i := 12) (v := ?v3_11) rfl (Or.inl ⟨by rfl, ?hy3_11⟩) ?rest3_11
    case hy3_11 => (intro w hSw; (try dsimp only at hSw); go_simp; try with_reducible rfl)
    try simp only [gA, gB, gC, pN, pU, pL, pZ, pS]
    refine tkF (i := 13) (v := ?v3_12) rfl (Or.inl ⟨by rfl, ?hy3_12⟩) ?rest3_12
    case hy3_12 => (intro w hSw; (try dsimp only at hSw); go_simp; try with_reducible rfl)
    try simp only [gA, gB, gC, pN, pU, pL, pZ, pS]
    refine tkF (i := 14) (v := ?v3_13) rfl (Or.inl ⟨by rfl, ?hy3_13⟩) ?rest3_13
    case hy3_13 => (intro w hSw; (try dsimp only at hSw); go_simp; try with_reducible rfl)
    try simp only [gA, gB, gC, pN, pU, pL, pZ, pS]
    refine wpAnyE_one (i := 15) (by kernel_rfl) rfl (fun Kx hK => ?_)
    go_simp
    have HCL_ := HCL
    replace HCL := Lib.hid (HCL.out.below (below1 _ (.cells #[.slice none 0 0, .int .i64 0, .int .i64 0, .int .i64 0, .int .i64 0, .slice none 0 0] 62)))
    have hx := HF5.out.al 62 #[.slice none 0 0, .int .i64 0, .int .i64 0, .int .i64 0, .int .i64 0, .slice none 0 0]
    try simp only [World.size_alloc, World.size_setCell, size_drew0] at hx
    have HF6 := Lib.hid hx
    clear hx
    refine hK.out _ _ (G.out _ (HF6.out.cut 1)) (fun hHeld => ?_)
    clear hK Kx
    try simp only [gA, gB, gC, pN, pU, pL, pZ, pS]
    refine wpAnyE_one (i := 16) (by kernel_rfl) rfl (fun Kx hK => ?_)
    go_simp
    replace HCL := Lib.hid (HCL_.out.below (below1 _ (.cells #[.slice A1 n1 a1, .int .i64 sc, .int .i64 st, .int .i64 ss, .int .i64 ctx, .slice C1 m1 b1] 62)))
    have hx := HF5.out.al 62 #[.slice A1 n1 a1, .int .i64 sc, .int .i64 st, .int .i64 ss, .int .i64 ctx, .slice C1 m1 b1]
    try simp only [World.size_alloc, World.size_setCell, size_drew0] at hx
    have HF7 := Lib.hid hx
    clear hx
    refine hK.out _ _ (G.out _ (HF7.out.cut 1)) (fun hHeld => ?_)
    clear hK Kx
    try simp only [gA, gB, gC, pN, pU, pL, pZ, pS]
    refine tkF (i := 17) (v := ?v3_14) rfl (Or.inl ⟨by rfl, ?hy3_14⟩) ?rest3_14
    case hy3_14 => (intro w hSw; (try dsimp only at hSw); go_simp; try with_reducible rfl)
    try simp only [gA, gB, gC, pN, pU, pL, pZ, pS]
    refine wpAnyE_done (by kernel_rfl) ?_ _
    clear G hHeld
    try simp only [Exit.then]
    try simp only [gA, gB, gC, pN, pU, pL, pZ, pS]
    go_wp2_with fail
    go_meet
    refine ⟨_, per, sc, st, ss, ctx, csh, A1, n1, a1, C1, m1, b1, rfl, rfl, Lib.hid (HF7.out), HCL⟩
   ·
    go_simp
    have HIN_ := HIN
    replace HIN := Lib.hid (HIN.out.below (below1 _ (.cells #[.slice none 0 0, .int .i64 0, .int .i64 0, .int .i64 0, .int .i64 0, .slice none 0 0] 62)))
    have hx := HF4.out.al 62 #[.slice none 0 0, .int .i64 0, .int .i64 0, .int .i64 0, .int .i64 0, .slice none 0 0]
    try simp only [World.size_alloc, World.size_setCell, size_drew0] at hx
    have HF5 := Lib.hid hx
    clear hx
    refine hK.out _ _ (G.out _ (HF5.out.cut 1)) (fun hHeld => ?_)
    clear hK Kx
    try simp only [gA, gB, gC, pN, pU, pL, pZ, pS]
    refine wpAnyE_one (i := 11) (by kernel_rfl) rfl (fun Kx hK => ?_)
    go_simp
    go_at_call 26
    refine (KR.out _ HF5.out.bl A5 c5 HIN.out).mono ?_
    rintro e W5 ⟨⟨⟨per, ⟨sc, st, ss⟩, ctx, csh⟩, A1, n1, a1, C1, m1, b1, rfl, hq⟩, hb⟩
    replace HIN := Lib.hid (HIN.out.below hb)
    have HF6 := Lib.hid (HF5.out.ca hb)
    clear HIN
    have HCL := Lib.hid hq
    clear hq
    clear hb
    refine hK.out _ _ (G.out _ (HF6.out.cut 1)) (fun hHeld => ?_)
    clear hK Kx
    try simp only [gA, gB, gC, pN, pU, pL, pZ, pS]
    refine tkF (i := 12) (v := ?v3_15) rfl (Or.inl ⟨by rfl, ?hy3_15⟩) ?rest3_15
    case hy3_15 => (intro w hSw; (try dsimp only at hSw); go_simp; try with_reducible rfl)
    try simp only [gA, gB, gC, pN, pU, pL, pZ, pS]
    refine tkF (i := 13) (v := ?v3_16) rfl (Or.inl ⟨by rfl, ?hy3_16⟩) ?rest3_16
    case hy3_16 => (intro w hSw; (try dsimp only at hSw); go_simp; try with_reducible rfl)
    try simp only [gA, gB, gC, pN, pU, pL, pZ, pS]
    refine tkF (i := 14) (v := ?v3_17) rfl (Or.inl ⟨by rfl, ?hy3_17⟩) ?rest3_17
    case hy3_17 => (intro w hSw; (try dsimp only at hSw); go_simp; try with_reducible rfl)
    try simp only [gA, gB, gC, pN, pU, pL, pZ, pS]
    refine wpAnyE_one (i := 16) (by kernel_rfl) rfl (fun Kx hK => ?_)
    obtain ⟨sk0, sk1, sk2, sk3, sk4, sk5, sf0, sf1, sf2, sf3, sf4, sf5⟩ := (HF6.out.b 1 rfl).af6
    go_simp
    replace HCL := Lib.hid (HCL.out.grown (HF6.out.b 1 rfl) (by decide) (by decide) (put6_gr _ _ (.slice A1 n1 a1) (.int .i64 sc) (.int .i64 st) (.int .i64 ss) (.int .i64 ctx) (.slice C1 m1 b1)))
    have HF7 := Lib.hid (HF6.out.put6 1 rfl (.slice A1 n1 a1) (.int .i64 sc) (.int .i64 st) (.int .i64 ss) (.int .i64 ctx) (.slice C1 m1 b1))
    clear sk0 sk1 sk2 sk3 sk4 sk5 sf0 sf1 sf2 sf3 sf4 sf5
    refine hK.out _ _ (G.out _ (HF7.out.cut 1)) (fun hHeld => ?_)
    clear hK Kx
    try simp only [gA, gB, gC, pN, pU, pL, pZ, pS]
    refine tkF (i := 17) (v := ?v3_18) rfl (Or.inl ⟨by rfl, ?hy3_18⟩) ?rest3_18
    case hy3_18 => (intro w hSw; (try dsimp only at hSw); go_simp; try with_reducible rfl)
    try simp only [gA, gB, gC, pN, pU, pL, pZ, pS]
    refine wpAnyE_done (by kernel_rfl) ?_ _
    clear G hHeld
    try simp only [Exit.then]
    try simp only [gA, gB, gC, pN, pU, pL, pZ, pS]
    go_wp2_with fail
    go_meet
    refine ⟨_, per, sc, st, ss, ctx, csh, A1, n1, a1, C1, m1, b1, rfl, rfl, Lib.hid (HF7.out), HCL⟩
  ·
   go_simp
   have hx := HF3.out.al 62 #[.slice none 0 0, .int .i64 0, .int .i64 0, .int .i64 0, .int .i64 0, .slice none 0 0]
   try simp only [World.size_alloc, World.size_setCell, size_drew0] at hx
   have HF4 := Lib.hid hx
   clear hx
   refine hK.out _ _ (G.out _ (HF4.out.cut 1)) (fun hHeld => ?_)
   clear hK Kx
   try simp only [gA, gB, gC, pN, pU, pL, pZ, pS]
   refine wpAnyE_one (i := 10) (by kernel_rfl) rfl (fun Kx hK => ?_)
   go_simp
   go_at_call 124
   refine (KW.out _ HF4.out.bl).mono ?_
   rintro e W4 ⟨⟨A5, c5, rfl, ho⟩, hb⟩
   have HF5 := Lib.hid (HF4.out.ca hb)
   have HIN := Lib.hid ho.view
   clear ho
   clear hb
   refine hK.out _ _ (G.out _ (HF5.out.cut 1)) (fun hHeld => ?_)
   clear hK Kx
   try simp only [gA, gB, gC, pN, pU, pL, pZ, pS]
   refine wpAnyE_one (i := 11) (by kernel_rfl) rfl (fun Kx hK => ?_)
   go_simp
   go_at_call 26
   refine (KR.out _ HF5.out.bl A5 c5 HIN.out).mono ?_
   rintro e W5 ⟨⟨⟨per, ⟨sc, st, ss⟩, ctx, csh⟩, A1, n1, a1, C1, m1, b1, rfl, hq⟩, hb⟩
   replace HIN := Lib.hid (HIN.out.below hb)
   have HF6 := Lib.hid (HF5.out.ca hb)
   clear HIN
   have HCL := Lib.hid hq
   clear hq
   clear hb
   refine hK.out _ _ (G.out _ (HF6.out.cut 1)) (fun hHeld => ?_)
   clear hK Kx
   try simp only [gA, gB, gC, pN, pU, pL, pZ, pS]
   refine tkF (i := 12) (v := ?v3_19) rfl (Or.inl ⟨by rfl, ?hy3_19⟩) ?rest3_19
   case hy3_19 => (intro w hSw; (try dsimp only at hSw); go_simp; try with_reducible rfl)
   try simp only [gA, gB, gC, pN, pU, pL, pZ, pS]
   refine tkF (i := 13) (v := ?v3_20) rfl (Or.inl ⟨by rfl, ?hy3_20⟩) ?rest3_20
   case hy3_20 => (intro w hSw; (try dsimp only at hSw); go_simp; try with_reducible rfl)
   try simp only [gA, gB, gC, pN, pU, pL, pZ, pS]
   refine tkF (i := 14) (v := ?v3_21) rfl (Or.inl ⟨by rfl, ?hy3_21⟩) ?rest3_21
   case hy3_21 => (intro w hSw; (try dsimp only at hSw); go_simp; try with_reducible rfl)
   try simp only [gA, gB, gC, pN, pU, pL, pZ, pS]
   refine wpAnyE_one (i := 16) (by kernel_rfl) rfl (fun Kx hK => ?_)
   obtain ⟨sk0, sk1, sk2, sk3, sk4, sk5, sf0, sf1, sf2, sf3, sf4, sf5⟩ := (HF6.out.b 1 rfl).af6
   go_simp
   replace HCL := Lib.hid (HCL.out.grown (HF6.out.b 1 rfl) (by decide) (by decide) (put6_gr _ _ (.slice A1 n1 a1) (.int .i64 sc) (.int .i64 st) (.int .i64 ss) (.int .i64 ctx) (.slice C1 m1 b1)))
   have HF7 := Lib.hid (HF6.out.put6 1 rfl (.slice A1 n1 a1) (.int .i64 sc) (.int .i64 st) (.int .i64 ss) (.int .i64 ctx) (.slice C1 m1 b1))
   clear sk0 sk1 sk2 sk3 sk4 sk5 sf0 sf1 sf2 sf3 sf4 sf5
   refine hK.out _ _ (G.out _ (HF7.out.cut 1)) (fun hHeld => ?_)
   clear hK Kx
   try simp only [gA, gB, gC, pN, pU, pL, pZ, pS]
   refine tkF (i := 17) (v := ?v3_22) rfl (Or.inl ⟨by rfl, ?hy3_22⟩) ?rest3_22
   case hy3_22 => (intro w hSw; (try dsimp only at hSw); go_simp; try with_reducible rfl)
   try simp only [gA, gB, gC, pN, pU, pL, pZ, pS]
   refine wpAnyE_done (by kernel_rfl) ?_ _
   clear G hHeld
   try simp only [Exit.then]
   try simp only [gA, gB, gC, pN, pU, pL, pZ, pS]
   go_wp2_with fail
   go_meet
   refine ⟨_, per, sc, st, ss, ctx, csh, A1, n1, a1, C1, m1, b1, rfl, rfl, Lib.hid (HF7.out), HCL⟩
 case rest =>
  obtain ⟨g2, per, sc, st, ss, ctx, csh, A1, n1, a1, C1, m1, b1, rfl, rfl, HFc, HC2_0⟩ := hcut
  have HF3 := HFc
  clear HFc HF2
  have qz := HF3.out.b 0 rfl
  have c0_0 := qz.cv 0 (.int .i64 0) rfl
  have f0_0 := qz.free 0
  have c0_1 := qz.cv 1 (.int .i64 0) rfl
  have f0_1 := qz.free 1
  have c0_2 := qz.cv 2 (.int .i64 0) rfl
  have f0_2 := qz.free 2
  have c0_3 := qz.cv 3 (.int .i64 0) rfl
  have f0_3 := qz.free 3
  have c0_4 := qz.cv 4 (.int .i64 0) rfl
  have f0_4 := qz.free 4
  have c0_5 := qz.cv 5 (.int .i64 0) rfl
  have f0_5 := qz.free 5
  have c0_6 := qz.cv 6 (.slice none 0 0) rfl
  have f0_6 := qz.free 6
  have c0_7 := qz.cv 7 (.int .i64 0) rfl
  have f0_7 := qz.free 7
  have c0_8 := qz.cv 8 (.slice none 0 0) rfl
  have f0_8 := qz.free 8
  have c0_9 := qz.cv 9 (.int .i64 0) rfl
  have f0_9 := qz.free 9
  clear qz
  by_cases h0 : E2 = 0
  case neg =>
   have tr : (E2 != 0) = true := by simpa using h0
   have HE : Hid (re = E2) := H2.out.trans (seqE_no h0)
   have HN0 : Hid (re ≠ 0) := by unfold Hid; rw [HE.out]; exact h0
   clear h0
   have qz := HF3.out.b 0 rfl
   have c0_0_3 := qz.cv 0 (.int .i64 0) rfl
   have f0_0_3 := qz.free 0
   have c0_1_3 := qz.cv 1 (.int .i64 0) rfl
   have f0_1_3 := qz.free 1
   have c0_2_3 := qz.cv 2 (.int .i64 0) rfl
   have f0_2_3 := qz.free 2
   have c0_3_3 := qz.cv 3 (.int .i64 0) rfl
   have f0_3_3 := qz.free 3
   have c0_4_3 := qz.cv 4 (.int .i64 0) rfl
   have f0_4_3 := qz.free 4
   have c0_5_3 := qz.cv 5 (.int .i64 0) rfl
   have f0_5_3 := qz.free 5
   have c0_6_3 := qz.cv 6 (.slice none 0 0) rfl
   have f0_6_3 := qz.free 6
   have c0_7_3 := qz.cv 7 (.int .i64 0) rfl
   have f0_7_3 := qz.free 7
   have c0_8_3 := qz.cv 8 (.slice none 0 0) rfl
   have f0_8_3 := qz.free 8
   have c0_9_3 := qz.cv 9 (.int .i64 0) rfl
   have f0_9_3 := qz.free 9
   clear qz
   go_wp2_with fail
   refine bodyPost_ret (v := .tuple #[.agg #[.int .i64 0, .int .i64 0, .int .i64 0, .int .i64 0, .int .i64 0, .int .i64 0, .slice none 0 0, .int .i64 0, .slice none 0 0, .int .i64 0], .int .i64 E2]) (by simp [results, Tryz.results64, go_sem, c0_0, c0_1, c0_2, c0_3, c0_4, c0_5, c0_6, c0_7, c0_8, c0_9, c0_0_3, c0_1_3, c0_2_3, c0_3_3, c0_4_3, c0_5_3, c0_6_3, c0_7_3, c0_8_3, c0_9_3]) rfl ⟨⟨sp0, none, 0, 0, none, 0, 0, by rw [HE.out]; rfl, SlipV.err HN0.out⟩, ?_⟩
   have hg := HF3.out.ge 0 rfl
   exact below_put10 HF3.out.bl hg (.int .i64 0) (.int .i64 0) (.int .i64 0) (.int .i64 0) (.int .i64 0) (.int .i64 0) (.slice none 0 0) (.int .i64 0) (.slice none 0 0) (.int .i64 0)
  have H3 := Lib.hid (H2.out.trans (seqE_ok h0))
  subst h0
  obtain ⟨hZ, hco⟩ := HC2_0.out.ok rfl
  subst hZ
  have HCO := Lib.hid hco
  clear HC2_0 hco KR KW
  dsimp only at KS HSHn
  have HM9 : Hid (m1 ≤ 9223372036854775807) := by have h1 := HCO.out.ls; have h2 := HSHn.out; dsimp only at h1; unfold Hid; omega
  have HM64 : Hid (m1 ≤ 64) := by have h1 := HCO.out.ls; have h2 := HSHn.out; dsimp only at h1; unfold Hid; omega
  have HT9 : Hid (E.yr.t.rows.length ≤ 9223372036854775807) := by have := HOK.out.yr; have := HOK.out.tc; unfold Hid; omega
  go_upto_region 7 with fail
  clear c0_0 f0_0 c0_1 f0_1 c0_2 f0_2 c0_3 f0_3 c0_4 f0_4 c0_5 f0_5 c0_6 f0_6 c0_7 f0_7 c0_8 f0_8 c0_9 f0_9
  go_cut [9, 8] (fun y0 y1 wx => ∃ (g : Nat) (zp zc zt zs ztx zsh : Int) (zrows : List Sh) (znet : Int) (ztk : List Tk) (zpy : Int) (A7 : Option Addr) (n7 c7 : Nat) (B7 : Option Addr) (m7 d7 : Nat), y0 = .pointer (some ⟨g, 0, none⟩) ∧ y1 = .int .i64 E3 ∧ Hid (Fr w wx [(w.heap.size, 76, #[.int .i64 0, .int .i64 0, .int .i64 0, .int .i64 0, .int .i64 0, .int .i64 0, .slice none 0 0, .int .i64 0, .slice none 0 0, .int .i64 0]), (g2, 62, #[.slice A1 n1 a1, .int .i64 sc, .int .i64 st, .int .i64 ss, .int .i64 ctx, .slice C1 m1 b1]), (g, 76, #[.int .i64 zp, .int .i64 zc, .int .i64 zt, .int .i64 zs, .int .i64 ztx, .int .i64 zsh, .slice A7 n7 c7, .int .i64 znet, .slice B7 m7 d7, .int .i64 zpy])]) ∧ Hid (SlipV wx w.heap.size E3 z (Sp.mk zp (Bs.mk zc zt zs) ztx zsh zrows znet ztk zpy) A7 n7 c7 B7 m7 d7))
  case first =>
   go_wp2_with fail
   have G : Hid (∀ W, Fr w W [(w.heap.size, 76, #[.int .i64 0, .int .i64 0, .int .i64 0, .int .i64 0, .int .i64 0, .int .i64 0, .slice none 0 0, .int .i64 0, .slice none 0 0, .int .i64 0]), (g2, 62, #[.slice A1 n1 a1, .int .i64 sc, .int .i64 st, .int .i64 ss, .int .i64 ctx, .slice C1 m1 b1])] → Below w.heap.size w W ∧ (W.cell? ⟨g2, 0, none⟩ = some (.slice A1 n1 a1) ∧ W.cell? ⟨g2, 1, none⟩ = some (.int .i64 sc) ∧ W.cell? ⟨g2, 2, none⟩ = some (.int .i64 st) ∧ W.cell? ⟨g2, 3, none⟩ = some (.int .i64 ss) ∧ W.cell? ⟨g2, 4, none⟩ = some (.int .i64 ctx) ∧ W.cell? ⟨g2, 5, none⟩ = some (.slice C1 m1 b1) ∧ W.cell? ⟨p, 0, none⟩ = some (.slice K.As ns K.cs) ∧ W.cell? ⟨p, 1, none⟩ = some (.slice K.Ac nc K.cc) ∧ W.cell? ⟨p, 2, none⟩ = some (.slice K.Ak nk K.ck) ∧ W.cell? ⟨p, 3, none⟩ = some (.int .i64 E.tb.lim) ∧ W.cell? ⟨p, 4, none⟩ = some (.int .i64 E.tb.rnd) ∧ W.cell? ⟨p, 10, none⟩ = some (.bool E.c.al) ∧ W.cell? ⟨p, 14, none⟩ = some (.pointer (some ⟨y, 0, none⟩)))) := fun W hW => ⟨hW.bl, (hW.b 1 rfl).cv 0 _ rfl, (hW.b 1 rfl).cv 1 _ rfl, (hW.b 1 rfl).cv 2 _ rfl, (hW.b 1 rfl).cv 3 _ rfl, (hW.b 1 rfl).cv 4 _ rfl, (hW.b 1 rfl).cv 5 _ rfl, (HB.out.t hW.bl).cv 0 _ rfl, (HB.out.t hW.bl).cv 1 _ rfl, (HB.out.t hW.bl).cv 2 _ rfl, (HB.out.t hW.bl).cv 3 _ rfl, (HB.out.t hW.bl).cv 4 _ rfl, (HB.out.t hW.bl).cv 10 _ rfl, (HB.out.t hW.bl).cv 14 _ rfl⟩
   replace HCO := Lib.hid (HCO.out.below (b0 _).drew)
   have HF4 := Lib.hid (HF3.out.dr)
   refine wp_region_G G 25 (by kernel_rfl) HF4.out (fun hHeld => ?_)
   refine tkF (i := 0) (v := ?v4_1) rfl (Or.inl ⟨by rfl, ?hy4_1⟩) ?rest4_1
   case hy4_1 => (intro w hSw; (try dsimp only at hSw); go_simp; try with_reducible rfl)
   try simp only [gA, gB, gC, pN, pU, pL, pZ, pS]
   refine tkF (i := 1) (v := ?v4_2) rfl (Or.inl ⟨by rfl, ?hy4_2⟩) ?rest4_2
   case hy4_2 => (intro w hSw; (try dsimp only at hSw); go_simp; try with_reducible rfl)
   try simp only [gA, gB, gC, pN, pU, pL, pZ, pS]
   refine tkF (i := 2) (v := ?v4_3) rfl (Or.inl ⟨by rfl, ?hy4_3⟩) ?rest4_3
   case hy4_3 => (intro w hSw; (try dsimp only at hSw); go_simp; try with_reducible rfl)
   try simp only [gA, gB, gC, pN, pU, pL, pZ, pS]
   refine tkF (i := 3) (v := ?v4_4) rfl (Or.inl ⟨by rfl, ?hy4_4⟩) ?rest4_4
   case hy4_4 => (intro w hSw; (try dsimp only at hSw); go_simp; try with_reducible rfl)
   try simp only [gA, gB, gC, pN, pU, pL, pZ, pS]
   refine tkF (i := 4) (v := ?v4_5) rfl (Or.inl ⟨by rfl, ?hy4_5⟩) ?rest4_5
   case hy4_5 => (intro w hSw; (try dsimp only at hSw); go_simp; try with_reducible rfl)
   try simp only [gA, gB, gC, pN, pU, pL, pZ, pS]
   refine tkF (i := 5) (v := ?v4_6) rfl (Or.inl ⟨by rfl, ?hy4_6⟩) ?rest4_6
   case hy4_6 => (intro w hSw; (try dsimp only at hSw); go_simp; try with_reducible rfl)
   try simp only [gA, gB, gC, pN, pU, pL, pZ, pS]
   refine tkF (i := 6) (v := ?v4_7) rfl (Or.inl ⟨by rfl, ?hy4_7⟩) ?rest4_7
   case hy4_7 => (intro w hSw; (try dsimp only at hSw); go_simp; try with_reducible rfl)
   try simp only [gA, gB, gC, pN, pU, pL, pZ, pS]
   refine tkF (i := 7) (v := ?v4_8) rfl (Or.inl ⟨by rfl, ?hy4_8⟩) ?rest4_8
   case hy4_8 => (intro w hSw; (try dsimp only at hSw); go_simp; try with_reducible rfl)
   try simp only [gA, gB, gC, pN, pU, pL, pZ, pS]
   refine tkF (i := 9) (v := ?v4_9) rfl (Or.inl ⟨by rfl, ?hy4_9⟩) ?rest4_9
   case hy4_9 => (intro w hSw; (try dsimp only at hSw); go_simp; try with_reducible rfl)
   try simp only [gA, gB, gC, pN, pU, pL, pZ, pS]
   refine tkF (i := 10) (v := ?v4_10) rfl (Or.inl ⟨by rfl, ?hy4_10⟩) ?rest4_10
   case hy4_10 => (intro w hSw; (try dsimp only at hSw); go_simp; try with_reducible rfl)
   try simp only [gA, gB, gC, pN, pU, pL, pZ, pS]
   refine tkF (i := 12) (v := ?v4_11) rfl (Or.inl ⟨by rfl, ?hy4_11⟩) ?rest4_11
   case hy4_11 => (intro w hSw; (try dsimp only at hSw); go_simp; try with_reducible rfl)
   try simp only [gA, gB, gC, pN, pU, pL, pZ, pS]
   refine tkF (i := 13) (v := ?v4_12) rfl (Or.inl ⟨by rfl, ?hy4_12⟩) ?rest4_12
   case hy4_12 => (intro w hSw; (try dsimp only at hSw); go_simp; try with_reducible rfl)
   try simp only [gA, gB, gC, pN, pU, pL, pZ, pS]
   refine tkF (i := 14) (v := ?v4_13) rfl (Or.inl ⟨by rfl, ?hy4_13⟩) ?rest4_13
   case hy4_13 => (intro w hSw; (try dsimp only at hSw); go_simp; try with_reducible rfl)
   try simp only [gA, gB, gC, pN, pU, pL, pZ, pS]
   refine tkF (i := 15) (v := ?v4_14) rfl (Or.inl ⟨by rfl, ?hy4_14⟩) ?rest4_14
   case hy4_14 => (intro w hSw; (try dsimp only at hSw); go_simp; try with_reducible rfl)
   try simp only [gA, gB, gC, pN, pU, pL, pZ, pS]
   refine tkF (i := 16) (v := ?v4_15) rfl (Or.inl ⟨by rfl, ?hy4_15⟩) ?rest4_15
   case hy4_15 => (intro w hSw; (try dsimp only at hSw); go_simp; try with_reducible rfl)
   try simp only [gA, gB, gC, pN, pU, pL, pZ, pS]
   refine tkF (i := 17) (v := ?v4_16) rfl (Or.inl ⟨by rfl, ?hy4_16⟩) ?rest4_16
   case hy4_16 => (intro w hSw; (try dsimp only at hSw); go_simp; try with_reducible rfl)
   try simp only [gA, gB, gC, pN, pU, pL, pZ, pS]
   refine wpAnyE_two (i := 8) (j := 22) (by kernel_rfl) rfl rfl (fun Kx hK => ?_) (fun Kx hK => ?_)
   ·
    go_simp
    go_at_call 28
    refine (KT.out _ HF4.out.bl).mono ?_
    rintro e W5 ⟨⟨At, ct, rfl, hot⟩, hb⟩
    replace HCO := Lib.hid (HCO.out.below hb)
    have HF5 := Lib.hid (HF4.out.ca hb)
    have HTO := Lib.hid (own_more hot HF4.out.bl.size)
    clear hot
    clear hb
    refine hK.out _ _ (G.out _ HF5.out) (fun hHeld => ?_)
    clear hK Kx
    try simp only [gA, gB, gC, pN, pU, pL, pZ, pS]
    refine wpAnyE_two (i := 11) (j := 22) (by kernel_rfl) rfl rfl (fun Kx hK => ?_) (fun Kx hK => ?_)
    ·
     go_simp
     go_at_call 36
     refine (KP.out _ HF5.out.bl).mono ?_
     rintro e W6 ⟨rfl, hb⟩
     replace HTO := Lib.hid (own_below HTO.out hb)
     replace HCO := Lib.hid (HCO.out.below hb)
     have HF6 := Lib.hid (HF5.out.ca hb)
     clear hb
     refine hK.out _ _ (G.out _ HF6.out) (fun hHeld => ?_)
     clear hK Kx
     try simp only [gA, gB, gC, pN, pU, pL, pZ, pS]
     refine wpAnyE_two (i := 18) (j := 22) (by kernel_rfl) rfl rfl (fun Kx hK => ?_) (fun Kx hK => ?_)
     ·
      go_simp
      go_at_call 129
      refine (KS.out _ A1 n1 a1 C1 m1 b1 At _ ct (row_sh (own_row shC_len HCO.out.sh HCO.out.ls HM9.out (by decide))) (row_sh (own_row shC_len HTO.out rfl HT9.out (by decide))) HM64.out).mono ?_
      rintro e W7 ⟨⟨⟨zp, ⟨zc, zt, zs⟩, ztx, zsh, zrows, znet, ztk, zpy⟩, A7, n7, c7, B7, m7, d7, rfl, hv⟩, hb⟩
      replace HTO := Lib.hid (own_below HTO.out hb)
      replace HCO := Lib.hid (HCO.out.below hb)
      have HF7 := Lib.hid (HF6.out.ca hb)
      have HSV := Lib.hid (hv.more HF6.out.bl.size)
      clear hv HCO HTO
      clear hb
      refine hK.out _ _ (G.out _ HF7.out) (fun hHeld => ?_)
      clear hK Kx
      try simp only [gA, gB, gC, pN, pU, pL, pZ, pS]
      refine tkF (i := 19) (v := ?v4_17) rfl (Or.inl ⟨by rfl, ?hy4_17⟩) ?rest4_17
      case hy4_17 => (intro w hSw; (try dsimp only at hSw); go_simp; try with_reducible rfl)
      try simp only [gA, gB, gC, pN, pU, pL, pZ, pS]
      refine tkF (i := 20) (v := ?v4_18) rfl (Or.inl ⟨by rfl, ?hy4_18⟩) ?rest4_18
      case hy4_18 => (intro w hSw; (try dsimp only at hSw); go_simp; try with_reducible rfl)
      try simp only [gA, gB, gC, pN, pU, pL, pZ, pS]
      refine tkF (i := 21) (v := ?v4_19) rfl (Or.inl ⟨by rfl, ?hy4_19⟩) ?rest4_19
      case hy4_19 => (intro w hSw; (try dsimp only at hSw); go_simp; try with_reducible rfl)
      try simp only [gA, gB, gC, pN, pU, pL, pZ, pS]
      refine wpAnyE_one (i := 22) (by kernel_rfl) rfl (fun Kx hK => ?_)
      go_simp
      have HSV_ := HSV
      replace HSV := Lib.hid (HSV.out.below (below1 _ (.cells #[.int .i64 0, .int .i64 0, .int .i64 0, .int .i64 0, .int .i64 0, .int .i64 0, .slice none 0 0, .int .i64 0, .slice none 0 0, .int .i64 0] 76)))
      have hx := HF7.out.al 76 #[.int .i64 0, .int .i64 0, .int .i64 0, .int .i64 0, .int .i64 0, .int .i64 0, .slice none 0 0, .int .i64 0, .slice none 0 0, .int .i64 0]
      try simp only [World.size_alloc, World.size_setCell, size_drew0] at hx
      have HF8 := Lib.hid hx
      clear hx
      refine hK.out _ _ (G.out _ (HF8.out.cut 2)) (fun hHeld => ?_)
      clear hK Kx
      try simp only [gA, gB, gC, pN, pU, pL, pZ, pS]
      refine wpAnyE_one (i := 23) (by kernel_rfl) rfl (fun Kx hK => ?_)
      go_simp
      replace HSV := Lib.hid (HSV_.out.below (below1 _ (.cells #[.int .i64 zp, .int .i64 zc, .int .i64 zt, .int .i64 zs, .int .i64 ztx, .int .i64 zsh, .slice A7 n7 c7, .int .i64 znet, .slice B7 m7 d7, .int .i64 zpy] 76)))
      have hx := HF7.out.al 76 #[.int .i64 zp, .int .i64 zc, .int .i64 zt, .int .i64 zs, .int .i64 ztx, .int .i64 zsh, .slice A7 n7 c7, .int .i64 znet, .slice B7 m7 d7, .int .i64 zpy]
      try simp only [World.size_alloc, World.size_setCell, size_drew0] at hx
      have HF9 := Lib.hid hx
      clear hx
      refine hK.out _ _ (G.out _ (HF9.out.cut 2)) (fun hHeld => ?_)
      clear hK Kx
      try simp only [gA, gB, gC, pN, pU, pL, pZ, pS]
      refine tkF (i := 24) (v := ?v4_20) rfl (Or.inl ⟨by rfl, ?hy4_20⟩) ?rest4_20
      case hy4_20 => (intro w hSw; (try dsimp only at hSw); go_simp; try with_reducible rfl)
      try simp only [gA, gB, gC, pN, pU, pL, pZ, pS]
      refine wpAnyE_done (by kernel_rfl) ?_ _
      clear G hHeld
      try simp only [Exit.then]
      try simp only [gA, gB, gC, pN, pU, pL, pZ, pS]
      go_wp2_with fail
      go_meet
      refine ⟨_, zp, zc, zt, zs, ztx, zsh, zrows, znet, ztk, zpy, A7, n7, c7, B7, m7, d7, rfl, rfl, Lib.hid (HF9.out), HSV⟩
     ·
      go_simp
      have HTO_ := HTO
      replace HTO := Lib.hid (HTO.out.alloc (.cells #[.int .i64 0, .int .i64 0, .int .i64 0, .int .i64 0, .int .i64 0, .int .i64 0, .slice none 0 0, .int .i64 0, .slice none 0 0, .int .i64 0] 76))
      have HCO_ := HCO
      replace HCO := Lib.hid (HCO.out.below (below1 _ (.cells #[.int .i64 0, .int .i64 0, .int .i64 0, .int .i64 0, .int .i64 0, .int .i64 0, .slice none 0 0, .int .i64 0, .slice none 0 0, .int .i64 0] 76)))
      have hx := HF6.out.al 76 #[.int .i64 0, .int .i64 0, .int .i64 0, .int .i64 0, .int .i64 0, .int .i64 0, .slice none 0 0, .int .i64 0, .slice none 0 0, .int .i64 0]
      try simp only [World.size_alloc, World.size_setCell, size_drew0] at hx
      have HF7 := Lib.hid hx
      clear hx
      refine hK.out _ _ (G.out _ (HF7.out.cut 2)) (fun hHeld => ?_)
      clear hK Kx
      try simp only [gA, gB, gC, pN, pU, pL, pZ, pS]
      refine wpAnyE_one (i := 18) (by kernel_rfl) rfl (fun Kx hK => ?_)
      go_simp
      go_at_call 129
      refine (KS.out _ A1 n1 a1 C1 m1 b1 At _ ct (row_sh (own_row shC_len HCO.out.sh HCO.out.ls HM9.out (by decide))) (row_sh (own_row shC_len HTO.out rfl HT9.out (by decide))) HM64.out).mono ?_
      rintro e W7 ⟨⟨⟨zp, ⟨zc, zt, zs⟩, ztx, zsh, zrows, znet, ztk, zpy⟩, A7, n7, c7, B7, m7, d7, rfl, hv⟩, hb⟩
      replace HTO := Lib.hid (own_below HTO.out hb)
      replace HCO := Lib.hid (HCO.out.below hb)
      have HF8 := Lib.hid (HF7.out.ca hb)
      have HSV := Lib.hid (hv.more HF7.out.bl.size)
      clear hv HCO HTO
      clear hb
      refine hK.out _ _ (G.out _ (HF8.out.cut 2)) (fun hHeld => ?_)
      clear hK Kx
      try simp only [gA, gB, gC, pN, pU, pL, pZ, pS]
      refine tkF (i := 19) (v := ?v4_21) rfl (Or.inl ⟨by rfl, ?hy4_21⟩) ?rest4_21
      case hy4_21 => (intro w hSw; (try dsimp only at hSw); go_simp; try with_reducible rfl)
      try simp only [gA, gB, gC, pN, pU, pL, pZ, pS]
      refine tkF (i := 20) (v := ?v4_22) rfl (Or.inl ⟨by rfl, ?hy4_22⟩) ?rest4_22
      case hy4_22 => (intro w hSw; (try dsimp only at hSw); go_simp; try with_reducible rfl)
      try simp only [gA, gB, gC, pN, pU, pL, pZ, pS]
      refine tkF (i := 21) (v := ?v4_23) rfl (Or.inl ⟨by rfl, ?hy4_23⟩) ?rest4_23
      case hy4_23 => (intro w hSw; (try dsimp only at hSw); go_simp; try with_reducible rfl)
      try simp only [gA, gB, gC, pN, pU, pL, pZ, pS]
      refine wpAnyE_one (i := 23) (by kernel_rfl) rfl (fun Kx hK => ?_)
      obtain ⟨sk0, sk1, sk2, sk3, sk4, sk5, sk6, sk7, sk8, sk9, sf0, sf1, sf2, sf3, sf4, sf5, sf6, sf7, sf8, sf9⟩ := (HF8.out.b 2 rfl).af10
      go_simp
      replace HSV := Lib.hid (HSV.out.grown (HF8.out.b 2 rfl) (by decide) (by decide) (put10_gr _ _ (.int .i64 zp) (.int .i64 zc) (.int .i64 zt) (.int .i64 zs) (.int .i64 ztx) (.int .i64 zsh) (.slice A7 n7 c7) (.int .i64 znet) (.slice B7 m7 d7) (.int .i64 zpy)))
      have HF9 := Lib.hid (HF8.out.put10 2 rfl (.int .i64 zp) (.int .i64 zc) (.int .i64 zt) (.int .i64 zs) (.int .i64 ztx) (.int .i64 zsh) (.slice A7 n7 c7) (.int .i64 znet) (.slice B7 m7 d7) (.int .i64 zpy))
      clear sk0 sk1 sk2 sk3 sk4 sk5 sk6 sk7 sk8 sk9 sf0 sf1 sf2 sf3 sf4 sf5 sf6 sf7 sf8 sf9
      refine hK.out _ _ (G.out _ (HF9.out.cut 2)) (fun hHeld => ?_)
      clear hK Kx
      try simp only [gA, gB, gC, pN, pU, pL, pZ, pS]
      refine tkF (i := 24) (v := ?v4_24) rfl (Or.inl ⟨by rfl, ?hy4_24⟩) ?rest4_24
      case hy4_24 => (intro w hSw; (try dsimp only at hSw); go_simp; try with_reducible rfl)
      try simp only [gA, gB, gC, pN, pU, pL, pZ, pS]
      refine wpAnyE_done (by kernel_rfl) ?_ _
      clear G hHeld
      try simp only [Exit.then]
      try simp only [gA, gB, gC, pN, pU, pL, pZ, pS]
      go_wp2_with fail
      go_meet
      refine ⟨_, zp, zc, zt, zs, ztx, zsh, zrows, znet, ztk, zpy, A7, n7, c7, B7, m7, d7, rfl, rfl, Lib.hid (HF9.out), HSV⟩
    ·
     go_simp
     have HTO_ := HTO
     replace HTO := Lib.hid (HTO.out.alloc (.cells #[.int .i64 0, .int .i64 0, .int .i64 0, .int .i64 0, .int .i64 0, .int .i64 0, .slice none 0 0, .int .i64 0, .slice none 0 0, .int .i64 0] 76))
     have HCO_ := HCO
     replace HCO := Lib.hid (HCO.out.below (below1 _ (.cells #[.int .i64 0, .int .i64 0, .int .i64 0, .int .i64 0, .int .i64 0, .int .i64 0, .slice none 0 0, .int .i64 0, .slice none 0 0, .int .i64 0] 76)))
     have hx := HF5.out.al 76 #[.int .i64 0, .int .i64 0, .int .i64 0, .int .i64 0, .int .i64 0, .int .i64 0, .slice none 0 0, .int .i64 0, .slice none 0 0, .int .i64 0]
     try simp only [World.size_alloc, World.size_setCell, size_drew0] at hx
     have HF6 := Lib.hid hx
     clear hx
     refine hK.out _ _ (G.out _ (HF6.out.cut 2)) (fun hHeld => ?_)
     clear hK Kx
     try simp only [gA, gB, gC, pN, pU, pL, pZ, pS]
     refine wpAnyE_one (i := 11) (by kernel_rfl) rfl (fun Kx hK => ?_)
     go_simp
     go_at_call 36
     refine (KP.out _ HF6.out.bl).mono ?_
     rintro e W6 ⟨rfl, hb⟩
     replace HTO := Lib.hid (own_below HTO.out hb)
     replace HCO := Lib.hid (HCO.out.below hb)
     have HF7 := Lib.hid (HF6.out.ca hb)
     clear hb
     refine hK.out _ _ (G.out _ (HF7.out.cut 2)) (fun hHeld => ?_)
     clear hK Kx
     try simp only [gA, gB, gC, pN, pU, pL, pZ, pS]
     refine wpAnyE_one (i := 18) (by kernel_rfl) rfl (fun Kx hK => ?_)
     go_simp
     go_at_call 129
     refine (KS.out _ A1 n1 a1 C1 m1 b1 At _ ct (row_sh (own_row shC_len HCO.out.sh HCO.out.ls HM9.out (by decide))) (row_sh (own_row shC_len HTO.out rfl HT9.out (by decide))) HM64.out).mono ?_
     rintro e W7 ⟨⟨⟨zp, ⟨zc, zt, zs⟩, ztx, zsh, zrows, znet, ztk, zpy⟩, A7, n7, c7, B7, m7, d7, rfl, hv⟩, hb⟩
     replace HTO := Lib.hid (own_below HTO.out hb)
     replace HCO := Lib.hid (HCO.out.below hb)
     have HF8 := Lib.hid (HF7.out.ca hb)
     have HSV := Lib.hid (hv.more HF7.out.bl.size)
     clear hv HCO HTO
     clear hb
     refine hK.out _ _ (G.out _ (HF8.out.cut 2)) (fun hHeld => ?_)
     clear hK Kx
     try simp only [gA, gB, gC, pN, pU, pL, pZ, pS]
     refine tkF (i := 19) (v := ?v4_25) rfl (Or.inl ⟨by rfl, ?hy4_25⟩) ?rest4_25
     case hy4_25 => (intro w hSw; (try dsimp only at hSw); go_simp; try with_reducible rfl)
     try simp only [gA, gB, gC, pN, pU, pL, pZ, pS]
     refine tkF (i := 20) (v := ?v4_26) rfl (Or.inl ⟨by rfl, ?hy4_26⟩) ?rest4_26
     case hy4_26 => (intro w hSw; (try dsimp only at hSw); go_simp; try with_reducible rfl)
     try simp only [gA, gB, gC, pN, pU, pL, pZ, pS]
     refine tkF (i := 21) (v := ?v4_27) rfl (Or.inl ⟨by rfl, ?hy4_27⟩) ?rest4_27
     case hy4_27 => (intro w hSw; (try dsimp only at hSw); go_simp; try with_reducible rfl)
     try simp only [gA, gB, gC, pN, pU, pL, pZ, pS]
     refine wpAnyE_one (i := 23) (by kernel_rfl) rfl (fun Kx hK => ?_)
     obtain ⟨sk0, sk1, sk2, sk3, sk4, sk5, sk6, sk7, sk8, sk9, sf0, sf1, sf2, sf3, sf4, sf5, sf6, sf7, sf8, sf9⟩ := (HF8.out.b 2 rfl).af10
     go_simp
     replace HSV := Lib.hid (HSV.out.grown (HF8.out.b 2 rfl) (by decide) (by decide) (put10_gr _ _ (.int .i64 zp) (.int .i64 zc) (.int .i64 zt) (.int .i64 zs) (.int .i64 ztx) (.int .i64 zsh) (.slice A7 n7 c7) (.int .i64 znet) (.slice B7 m7 d7) (.int .i64 zpy)))
     have HF9 := Lib.hid (HF8.out.put10 2 rfl (.int .i64 zp) (.int .i64 zc) (.int .i64 zt) (.int .i64 zs) (.int .i64 ztx) (.int .i64 zsh) (.slice A7 n7 c7) (.int .i64 znet) (.slice B7 m7 d7) (.int .i64 zpy))
     clear sk0 sk1 sk2 sk3 sk4 sk5 sk6 sk7 sk8 sk9 sf0 sf1 sf2 sf3 sf4 sf5 sf6 sf7 sf8 sf9
     refine hK.out _ _ (G.out _ (HF9.out.cut 2)) (fun hHeld => ?_)
     clear hK Kx
     try simp only [gA, gB, gC, pN, pU, pL, pZ, pS]
     refine tkF (i := 24) (v := ?v4_28) rfl (Or.inl ⟨by rfl, ?hy4_28⟩) ?rest4_28
     case hy4_28 => (intro w hSw; (try dsimp only at hSw); go_simp; try with_reducible rfl)
     try simp only [gA, gB, gC, pN, pU, pL, pZ, pS]
     refine wpAnyE_done (by kernel_rfl) ?_ _
     clear G hHeld
     try simp only [Exit.then]
     try simp only [gA, gB, gC, pN, pU, pL, pZ, pS]
     go_wp2_with fail
     go_meet
     refine ⟨_, zp, zc, zt, zs, ztx, zsh, zrows, znet, ztk, zpy, A7, n7, c7, B7, m7, d7, rfl, rfl, Lib.hid (HF9.out), HSV⟩
   ·
    go_simp
    have HCO_ := HCO
    replace HCO := Lib.hid (HCO.out.below (below1 _ (.cells #[.int .i64 0, .int .i64 0, .int .i64 0, .int .i64 0, .int .i64 0, .int .i64 0, .slice none 0 0, .int .i64 0, .slice none 0 0, .int .i64 0] 76)))
    have hx := HF4.out.al 76 #[.int .i64 0, .int .i64 0, .int .i64 0, .int .i64 0, .int .i64 0, .int .i64 0, .slice none 0 0, .int .i64 0, .slice none 0 0, .int .i64 0]
    try simp only [World.size_alloc, World.size_setCell, size_drew0] at hx
    have HF5 := Lib.hid hx
    clear hx
    refine hK.out _ _ (G.out _ (HF5.out.cut 2)) (fun hHeld => ?_)
    clear hK Kx
    try simp only [gA, gB, gC, pN, pU, pL, pZ, pS]
    refine wpAnyE_one (i := 8) (by kernel_rfl) rfl (fun Kx hK => ?_)
    go_simp
    go_at_call 28
    refine (KT.out _ HF5.out.bl).mono ?_
    rintro e W5 ⟨⟨At, ct, rfl, hot⟩, hb⟩
    replace HCO := Lib.hid (HCO.out.below hb)
    have HF6 := Lib.hid (HF5.out.ca hb)
    have HTO := Lib.hid (own_more hot HF5.out.bl.size)
    clear hot
    clear hb
    refine hK.out _ _ (G.out _ (HF6.out.cut 2)) (fun hHeld => ?_)
    clear hK Kx
    try simp only [gA, gB, gC, pN, pU, pL, pZ, pS]
    refine wpAnyE_one (i := 11) (by kernel_rfl) rfl (fun Kx hK => ?_)
    go_simp
    go_at_call 36
    refine (KP.out _ HF6.out.bl).mono ?_
    rintro e W6 ⟨rfl, hb⟩
    replace HTO := Lib.hid (own_below HTO.out hb)
    replace HCO := Lib.hid (HCO.out.below hb)
    have HF7 := Lib.hid (HF6.out.ca hb)
    clear hb
    refine hK.out _ _ (G.out _ (HF7.out.cut 2)) (fun hHeld => ?_)
    clear hK Kx
    try simp only [gA, gB, gC, pN, pU, pL, pZ, pS]
    refine wpAnyE_one (i := 18) (by kernel_rfl) rfl (fun Kx hK => ?_)
    go_simp
    go_at_call 129
    refine (KS.out _ A1 n1 a1 C1 m1 b1 At _ ct (row_sh (own_row shC_len HCO.out.sh HCO.out.ls HM9.out (by decide))) (row_sh (own_row shC_len HTO.out rfl HT9.out (by decide))) HM64.out).mono ?_
    rintro e W7 ⟨⟨⟨zp, ⟨zc, zt, zs⟩, ztx, zsh, zrows, znet, ztk, zpy⟩, A7, n7, c7, B7, m7, d7, rfl, hv⟩, hb⟩
    replace HTO := Lib.hid (own_below HTO.out hb)
    replace HCO := Lib.hid (HCO.out.below hb)
    have HF8 := Lib.hid (HF7.out.ca hb)
    have HSV := Lib.hid (hv.more HF7.out.bl.size)
    clear hv HCO HTO
    clear hb
    refine hK.out _ _ (G.out _ (HF8.out.cut 2)) (fun hHeld => ?_)
    clear hK Kx
    try simp only [gA, gB, gC, pN, pU, pL, pZ, pS]
    refine tkF (i := 19) (v := ?v4_29) rfl (Or.inl ⟨by rfl, ?hy4_29⟩) ?rest4_29
    case hy4_29 => (intro w hSw; (try dsimp only at hSw); go_simp; try with_reducible rfl)
    try simp only [gA, gB, gC, pN, pU, pL, pZ, pS]
    refine tkF (i := 20) (v := ?v4_30) rfl (Or.inl ⟨by rfl, ?hy4_30⟩) ?rest4_30
    case hy4_30 => (intro w hSw; (try dsimp only at hSw); go_simp; try with_reducible rfl)
    try simp only [gA, gB, gC, pN, pU, pL, pZ, pS]
    refine tkF (i := 21) (v := ?v4_31) rfl (Or.inl ⟨by rfl, ?hy4_31⟩) ?rest4_31
    case hy4_31 => (intro w hSw; (try dsimp only at hSw); go_simp; try with_reducible rfl)
    try simp only [gA, gB, gC, pN, pU, pL, pZ, pS]
    refine wpAnyE_one (i := 23) (by kernel_rfl) rfl (fun Kx hK => ?_)
    obtain ⟨sk0, sk1, sk2, sk3, sk4, sk5, sk6, sk7, sk8, sk9, sf0, sf1, sf2, sf3, sf4, sf5, sf6, sf7, sf8, sf9⟩ := (HF8.out.b 2 rfl).af10
    go_simp
    replace HSV := Lib.hid (HSV.out.grown (HF8.out.b 2 rfl) (by decide) (by decide) (put10_gr _ _ (.int .i64 zp) (.int .i64 zc) (.int .i64 zt) (.int .i64 zs) (.int .i64 ztx) (.int .i64 zsh) (.slice A7 n7 c7) (.int .i64 znet) (.slice B7 m7 d7) (.int .i64 zpy)))
    have HF9 := Lib.hid (HF8.out.put10 2 rfl (.int .i64 zp) (.int .i64 zc) (.int .i64 zt) (.int .i64 zs) (.int .i64 ztx) (.int .i64 zsh) (.slice A7 n7 c7) (.int .i64 znet) (.slice B7 m7 d7) (.int .i64 zpy))
    clear sk0 sk1 sk2 sk3 sk4 sk5 sk6 sk7 sk8 sk9 sf0 sf1 sf2 sf3 sf4 sf5 sf6 sf7 sf8 sf9
    refine hK.out _ _ (G.out _ (HF9.out.cut 2)) (fun hHeld => ?_)
    clear hK Kx
    try simp only [gA, gB, gC, pN, pU, pL, pZ, pS]
    refine tkF (i := 24) (v := ?v4_32) rfl (Or.inl ⟨by rfl, ?hy4_32⟩) ?rest4_32
    case hy4_32 => (intro w hSw; (try dsimp only at hSw); go_simp; try with_reducible rfl)
    try simp only [gA, gB, gC, pN, pU, pL, pZ, pS]
    refine wpAnyE_done (by kernel_rfl) ?_ _
    clear G hHeld
    try simp only [Exit.then]
    try simp only [gA, gB, gC, pN, pU, pL, pZ, pS]
    go_wp2_with fail
    go_meet
    refine ⟨_, zp, zc, zt, zs, ztx, zsh, zrows, znet, ztk, zpy, A7, n7, c7, B7, m7, d7, rfl, rfl, Lib.hid (HF9.out), HSV⟩
  case rest =>
   obtain ⟨g3, zp, zc, zt, zs, ztx, zsh, zrows, znet, ztk, zpy, A7, n7, c7, B7, m7, d7, rfl, rfl, HFc, HC3_0⟩ := hcut
   have HF4 := HFc
   clear HFc HF3
   have qz := HF4.out.b 0 rfl
   have c0_0 := qz.cv 0 (.int .i64 0) rfl
   have f0_0 := qz.free 0
   have c0_1 := qz.cv 1 (.int .i64 0) rfl
   have f0_1 := qz.free 1
   have c0_2 := qz.cv 2 (.int .i64 0) rfl
   have f0_2 := qz.free 2
   have c0_3 := qz.cv 3 (.int .i64 0) rfl
   have f0_3 := qz.free 3
   have c0_4 := qz.cv 4 (.int .i64 0) rfl
   have f0_4 := qz.free 4
   have c0_5 := qz.cv 5 (.int .i64 0) rfl
   have f0_5 := qz.free 5
   have c0_6 := qz.cv 6 (.slice none 0 0) rfl
   have f0_6 := qz.free 6
   have c0_7 := qz.cv 7 (.int .i64 0) rfl
   have f0_7 := qz.free 7
   have c0_8 := qz.cv 8 (.slice none 0 0) rfl
   have f0_8 := qz.free 8
   have c0_9 := qz.cv 9 (.int .i64 0) rfl
   have f0_9 := qz.free 9
   clear qz
   by_cases h0 : E3 = 0
   case neg =>
    have tr : (E3 != 0) = true := by simpa using h0
    have HE : Hid (re = E3) := H3.out.trans (seqE_no h0)
    have HN0 : Hid (re ≠ 0) := by unfold Hid; rw [HE.out]; exact h0
    clear h0
    have qz := HF4.out.b 0 rfl
    have c0_0_4 := qz.cv 0 (.int .i64 0) rfl
    have f0_0_4 := qz.free 0
    have c0_1_4 := qz.cv 1 (.int .i64 0) rfl
    have f0_1_4 := qz.free 1
    have c0_2_4 := qz.cv 2 (.int .i64 0) rfl
    have f0_2_4 := qz.free 2
    have c0_3_4 := qz.cv 3 (.int .i64 0) rfl
    have f0_3_4 := qz.free 3
    have c0_4_4 := qz.cv 4 (.int .i64 0) rfl
    have f0_4_4 := qz.free 4
    have c0_5_4 := qz.cv 5 (.int .i64 0) rfl
    have f0_5_4 := qz.free 5
    have c0_6_4 := qz.cv 6 (.slice none 0 0) rfl
    have f0_6_4 := qz.free 6
    have c0_7_4 := qz.cv 7 (.int .i64 0) rfl
    have f0_7_4 := qz.free 7
    have c0_8_4 := qz.cv 8 (.slice none 0 0) rfl
    have f0_8_4 := qz.free 8
    have c0_9_4 := qz.cv 9 (.int .i64 0) rfl
    have f0_9_4 := qz.free 9
    clear qz
    go_wp2_with fail
    refine bodyPost_ret (v := .tuple #[.agg #[.int .i64 0, .int .i64 0, .int .i64 0, .int .i64 0, .int .i64 0, .int .i64 0, .slice none 0 0, .int .i64 0, .slice none 0 0, .int .i64 0], .int .i64 E3]) (by simp [results, Tryz.results64, go_sem, c0_0, c0_1, c0_2, c0_3, c0_4, c0_5, c0_6, c0_7, c0_8, c0_9, c0_0_4, c0_1_4, c0_2_4, c0_3_4, c0_4_4, c0_5_4, c0_6_4, c0_7_4, c0_8_4, c0_9_4]) rfl ⟨⟨sp0, none, 0, 0, none, 0, 0, by rw [HE.out]; rfl, SlipV.err HN0.out⟩, ?_⟩
    have hg := HF4.out.ge 0 rfl
    exact below_put10 HF4.out.bl hg (.int .i64 0) (.int .i64 0) (.int .i64 0) (.int .i64 0) (.int .i64 0) (.int .i64 0) (.slice none 0 0) (.int .i64 0) (.slice none 0 0) (.int .i64 0)
   have H4 := Lib.hid (H3.out.trans (seqE_ok h0))
   subst h0
   obtain ⟨hZ, hn7, hm7, _, _⟩ := HC3_0.out.ok rfl
   have HN7 := Lib.hid hn7
   have HM7 := Lib.hid hm7
   clear hn7 hm7
   subst hZ
   dsimp only at KY
   have HSV := HC3_0
   clear HC3_0 KS KT KP HCO
   have HN9 : Hid (n7 ≤ 9223372036854775807 ∧ m7 ≤ 9223372036854775807) := HLN.out _ _ HN7.out HM7.out
   go_upto_region 10 with fail
   clear c0_0 f0_0 c0_1 f0_1 c0_2 f0_2 c0_3 f0_3 c0_4 f0_4 c0_5 f0_5 c0_6 f0_6 c0_7 f0_7 c0_8 f0_8 c0_9 f0_9
   go_cut [10, 11] (fun y0 y1 wx => ∃ (g : Nat) (vc vt vs vtx vsh vnet vtk vpy : Int) (A8 : Option Addr) (n8 c8 : Nat), y0 = .pointer (some ⟨g, 0, none⟩) ∧ y1 = .int .i64 E4 ∧ Hid (Fr w wx [(w.heap.size, 76, #[.int .i64 0, .int .i64 0, .int .i64 0, .int .i64 0, .int .i64 0, .int .i64 0, .slice none 0 0, .int .i64 0, .slice none 0 0, .int .i64 0]), (g2, 62, #[.slice A1 n1 a1, .int .i64 sc, .int .i64 st, .int .i64 ss, .int .i64 ctx, .slice C1 m1 b1]), (g3, 76, #[.int .i64 zp, .int .i64 zc, .int .i64 zt, .int .i64 zs, .int .i64 ztx, .int .i64 zsh, .slice A7 n7 c7, .int .i64 znet, .slice B7 m7 d7, .int .i64 zpy]), (g, 67, #[.int .i64 vc, .int .i64 vt, .int .i64 vs, .int .i64 vtx, .int .i64 vsh, .slice A8 n8 c8, .int .i64 vnet, .int .i64 vtk, .int .i64 vpy])]) ∧ Hid (SlipV wx w.heap.size 0 (Sp.mk zp (Bs.mk zc zt zs) ztx zsh zrows znet ztk zpy) (Sp.mk zp (Bs.mk zc zt zs) ztx zsh zrows znet ztk zpy) A7 n7 c7 B7 m7 d7))
   case first =>
    go_wp2_with fail
    have G : Hid (∀ W, Fr w W [(w.heap.size, 76, #[.int .i64 0, .int .i64 0, .int .i64 0, .int .i64 0, .int .i64 0, .int .i64 0, .slice none 0 0, .int .i64 0, .slice none 0 0, .int .i64 0]), (g2, 62, #[.slice A1 n1 a1, .int .i64 sc, .int .i64 st, .int .i64 ss, .int .i64 ctx, .slice C1 m1 b1]), (g3, 76, #[.int .i64 zp, .int .i64 zc, .int .i64 zt, .int .i64 zs, .int .i64 ztx, .int .i64 zsh, .slice A7 n7 c7, .int .i64 znet, .slice B7 m7 d7, .int .i64 zpy])] → Below w.heap.size w W ∧ (W.cell? ⟨g3, 0, none⟩ = some (.int .i64 zp) ∧ W.cell? ⟨g3, 1, none⟩ = some (.int .i64 zc) ∧ W.cell? ⟨g3, 2, none⟩ = some (.int .i64 zt) ∧ W.cell? ⟨g3, 3, none⟩ = some (.int .i64 zs) ∧ W.cell? ⟨g3, 4, none⟩ = some (.int .i64 ztx) ∧ W.cell? ⟨g3, 5, none⟩ = some (.int .i64 zsh) ∧ W.cell? ⟨g3, 6, none⟩ = some (.slice A7 n7 c7) ∧ W.cell? ⟨g3, 7, none⟩ = some (.int .i64 znet) ∧ W.cell? ⟨g3, 8, none⟩ = some (.slice B7 m7 d7) ∧ W.cell? ⟨g3, 9, none⟩ = some (.int .i64 zpy) ∧ W.cell? ⟨p, 14, none⟩ = some (.pointer (some ⟨y, 0, none⟩)))) := fun W hW => ⟨hW.bl, (hW.b 2 rfl).cv 0 _ rfl, (hW.b 2 rfl).cv 1 _ rfl, (hW.b 2 rfl).cv 2 _ rfl, (hW.b 2 rfl).cv 3 _ rfl, (hW.b 2 rfl).cv 4 _ rfl, (hW.b 2 rfl).cv 5 _ rfl, (hW.b 2 rfl).cv 6 _ rfl, (hW.b 2 rfl).cv 7 _ rfl, (hW.b 2 rfl).cv 8 _ rfl, (hW.b 2 rfl).cv 9 _ rfl, (HB.out.t hW.bl).cv 14 _ rfl⟩
    replace HSV := Lib.hid (HSV.out.below (b0 _).drew)
    have HF5 := Lib.hid (HF4.out.dr)
    refine wp_region_G G 12 (by kernel_rfl) HF5.out (fun hHeld => ?_)
    refine tkF (i := 0) (v := ?v5_1) rfl (Or.inl ⟨by rfl, ?hy5_1⟩) ?rest5_1
    case hy5_1 => (intro w hSw; (try dsimp only at hSw); go_simp; try with_reducible rfl)
    try simp only [gA, gB, gC, pN, pU, pL, pZ, pS]
    refine tkF (i := 1) (v := ?v5_2) rfl (Or.inl ⟨by rfl, ?hy5_2⟩) ?rest5_2
    case hy5_2 => (intro w hSw; (try dsimp only at hSw); go_simp; try with_reducible rfl)
    try simp only [gA, gB, gC, pN, pU, pL, pZ, pS]
    refine tkF (i := 2) (v := ?v5_3) rfl (Or.inl ⟨by rfl, ?hy5_3⟩) ?rest5_3
    case hy5_3 => (intro w hSw; (try dsimp only at hSw); go_simp; try with_reducible rfl)
    try simp only [gA, gB, gC, pN, pU, pL, pZ, pS]
    refine tkF (i := 3) (v := ?v5_4) rfl (Or.inl ⟨by rfl, ?hy5_4⟩) ?rest5_4
    case hy5_4 => (intro w hSw; (try dsimp only at hSw); go_simp; try with_reducible rfl)
    try simp only [gA, gB, gC, pN, pU, pL, pZ, pS]
    refine tkF (i := 4) (v := ?v5_5) rfl (Or.inl ⟨by rfl, ?hy5_5⟩) ?rest5_5
    case hy5_5 => (intro w hSw; (try dsimp only at hSw); go_simp; try with_reducible rfl)
    try simp only [gA, gB, gC, pN, pU, pL, pZ, pS]
    refine wpAnyE_two (i := 5) (j := 9) (by kernel_rfl) rfl rfl (fun Kx hK => ?_) (fun Kx hK => ?_)
    ·
     go_simp
     go_at_call 130
     refine (KY.out _ HF5.out.bl A7 n7 c7 B7 m7 d7 (row_sh (own_row shC_len (HSV.out.ok rfl).2.2.2.1 HN7.out HN9.out.1 (by decide))) (own_row (f := tkC) (K := 6) (d := tk0) tkC_len' (HSV.out.ok rfl).2.2.2.2 HM7.out HN9.out.2 (by decide))).mono ?_
     rintro e W6 ⟨⟨⟨⟨vc, vt, vs⟩, vtx, vsh, vrows, vnet, vtk, vpy⟩, A8, n8, c8, rfl, hq⟩, hb⟩
     replace HSV := Lib.hid (HSV.out.below hb)
     have HF6 := Lib.hid (HF5.out.ca hb)
     clear hq
     clear hb
     refine hK.out _ _ (G.out _ HF6.out) (fun hHeld => ?_)
     clear hK Kx
     try simp only [gA, gB, gC, pN, pU, pL, pZ, pS]
     refine tkF (i := 6) (v := ?v5_6) rfl (Or.inl ⟨by rfl, ?hy5_6⟩) ?rest5_6
     case hy5_6 => (intro w hSw; (try dsimp only at hSw); go_simp; try with_reducible rfl)
     try simp only [gA, gB, gC, pN, pU, pL, pZ, pS]
     refine tkF (i := 7) (v := ?v5_7) rfl (Or.inl ⟨by rfl, ?hy5_7⟩) ?rest5_7
     case hy5_7 => (intro w hSw; (try dsimp only at hSw); go_simp; try with_reducible rfl)
     try simp only [gA, gB, gC, pN, pU, pL, pZ, pS]
     refine tkF (i := 8) (v := ?v5_8) rfl (Or.inl ⟨by rfl, ?hy5_8⟩) ?rest5_8
     case hy5_8 => (intro w hSw; (try dsimp only at hSw); go_simp; try with_reducible rfl)
     try simp only [gA, gB, gC, pN, pU, pL, pZ, pS]
     refine wpAnyE_one (i := 9) (by kernel_rfl) rfl (fun Kx hK => ?_)
     go_simp
     have HSV_ := HSV
     replace HSV := Lib.hid (HSV.out.below (below1 _ (.cells #[.int .i64 0, .int .i64 0, .int .i64 0, .int .i64 0, .int .i64 0, .slice none 0 0, .int .i64 0, .int .i64 0, .int .i64 0] 67)))
     have hx := HF6.out.al 67 #[.int .i64 0, .int .i64 0, .int .i64 0, .int .i64 0, .int .i64 0, .slice none 0 0, .int .i64 0, .int .i64 0, .int .i64 0]
     try simp only [World.size_alloc, World.size_setCell, size_drew0] at hx
     have HF7 := Lib.hid hx
     clear hx
     refine hK.out _ _ (G.out _ (HF7.out.cut 3)) (fun hHeld => ?_)
     clear hK Kx
     try simp only [gA, gB, gC, pN, pU, pL, pZ, pS]
     refine wpAnyE_one (i := 10) (by kernel_rfl) rfl (fun Kx hK => ?_)
     go_simp
     replace HSV := Lib.hid (HSV_.out.below (below1 _ (.cells #[.int .i64 vc, .int .i64 vt, .int .i64 vs, .int .i64 vtx, .int .i64 vsh, .slice A8 n8 c8, .int .i64 vnet, .int .i64 vtk, .int .i64 vpy] 67)))
     have hx := HF6.out.al 67 #[.int .i64 vc, .int .i64 vt, .int .i64 vs, .int .i64 vtx, .int .i64 vsh, .slice A8 n8 c8, .int .i64 vnet, .int .i64 vtk, .int .i64 vpy]
     try simp only [World.size_alloc, World.size_setCell, size_drew0] at hx
     have HF8 := Lib.hid hx
     clear hx
     refine hK.out _ _ (G.out _ (HF8.out.cut 3)) (fun hHeld => ?_)
     clear hK Kx
     try simp only [gA, gB, gC, pN, pU, pL, pZ, pS]
     refine tkF (i := 11) (v := ?v5_9) rfl (Or.inl ⟨by rfl, ?hy5_9⟩) ?rest5_9
     case hy5_9 => (intro w hSw; (try dsimp only at hSw); go_simp; try with_reducible rfl)
     try simp only [gA, gB, gC, pN, pU, pL, pZ, pS]
     refine wpAnyE_done (by kernel_rfl) ?_ _
     clear G hHeld
     try simp only [Exit.then]
     try simp only [gA, gB, gC, pN, pU, pL, pZ, pS]
     go_wp2_with fail
     go_meet
     refine ⟨_, vc, vt, vs, vtx, vsh, vnet, vtk, vpy, A8, n8, c8, rfl, rfl, Lib.hid (HF8.out), HSV⟩
    ·
     go_simp
     have HSV_ := HSV
     replace HSV := Lib.hid (HSV.out.below (below1 _ (.cells #[.int .i64 0, .int .i64 0, .int .i64 0, .int .i64 0, .int .i64 0, .slice none 0 0, .int .i64 0, .int .i64 0, .int .i64 0] 67)))
     have hx := HF5.out.al 67 #[.int .i64 0, .int .i64 0, .int .i64 0, .int .i64 0, .int .i64 0, .slice none 0 0, .int .i64 0, .int .i64 0, .int .i64 0]
     try simp only [World.size_alloc, World.size_setCell, size_drew0] at hx
     have HF6 := Lib.hid hx
     clear hx
     refine hK.out _ _ (G.out _ (HF6.out.cut 3)) (fun hHeld => ?_)
     clear hK Kx
     try simp only [gA, gB, gC, pN, pU, pL, pZ, pS]
     refine wpAnyE_one (i := 5) (by kernel_rfl) rfl (fun Kx hK => ?_)
     go_simp
     go_at_call 130
     refine (KY.out _ HF6.out.bl A7 n7 c7 B7 m7 d7 (row_sh (own_row shC_len (HSV.out.ok rfl).2.2.2.1 HN7.out HN9.out.1 (by decide))) (own_row (f := tkC) (K := 6) (d := tk0) tkC_len' (HSV.out.ok rfl).2.2.2.2 HM7.out HN9.out.2 (by decide))).mono ?_
     rintro e W6 ⟨⟨⟨⟨vc, vt, vs⟩, vtx, vsh, vrows, vnet, vtk, vpy⟩, A8, n8, c8, rfl, hq⟩, hb⟩
     replace HSV := Lib.hid (HSV.out.below hb)
     have HF7 := Lib.hid (HF6.out.ca hb)
     clear hq
     clear hb
     refine hK.out _ _ (G.out _ (HF7.out.cut 3)) (fun hHeld => ?_)
     clear hK Kx
     try simp only [gA, gB, gC, pN, pU, pL, pZ, pS]
     refine tkF (i := 6) (v := ?v5_10) rfl (Or.inl ⟨by rfl, ?hy5_10⟩) ?rest5_10
     case hy5_10 => (intro w hSw; (try dsimp only at hSw); go_simp; try with_reducible rfl)
     try simp only [gA, gB, gC, pN, pU, pL, pZ, pS]
     refine tkF (i := 7) (v := ?v5_11) rfl (Or.inl ⟨by rfl, ?hy5_11⟩) ?rest5_11
     case hy5_11 => (intro w hSw; (try dsimp only at hSw); go_simp; try with_reducible rfl)
     try simp only [gA, gB, gC, pN, pU, pL, pZ, pS]
     refine tkF (i := 8) (v := ?v5_12) rfl (Or.inl ⟨by rfl, ?hy5_12⟩) ?rest5_12
     case hy5_12 => (intro w hSw; (try dsimp only at hSw); go_simp; try with_reducible rfl)
     try simp only [gA, gB, gC, pN, pU, pL, pZ, pS]
     refine wpAnyE_one (i := 10) (by kernel_rfl) rfl (fun Kx hK => ?_)
     obtain ⟨sk0, sk1, sk2, sk3, sk4, sk5, sk6, sk7, sk8, sf0, sf1, sf2, sf3, sf4, sf5, sf6, sf7, sf8⟩ := (HF7.out.b 3 rfl).af9
     go_simp
     replace HSV := Lib.hid (HSV.out.grown (HF7.out.b 3 rfl) (by decide) (by decide) (put9_gr _ _ (.int .i64 vc) (.int .i64 vt) (.int .i64 vs) (.int .i64 vtx) (.int .i64 vsh) (.slice A8 n8 c8) (.int .i64 vnet) (.int .i64 vtk) (.int .i64 vpy)))
     have HF8 := Lib.hid (HF7.out.put9 3 rfl (.int .i64 vc) (.int .i64 vt) (.int .i64 vs) (.int .i64 vtx) (.int .i64 vsh) (.slice A8 n8 c8) (.int .i64 vnet) (.int .i64 vtk) (.int .i64 vpy))
     clear sk0 sk1 sk2 sk3 sk4 sk5 sk6 sk7 sk8 sf0 sf1 sf2 sf3 sf4 sf5 sf6 sf7 sf8
     refine hK.out _ _ (G.out _ (HF8.out.cut 3)) (fun hHeld => ?_)
     clear hK Kx
     try simp only [gA, gB, gC, pN, pU, pL, pZ, pS]
     refine tkF (i := 11) (v := ?v5_13) rfl (Or.inl ⟨by rfl, ?hy5_13⟩) ?rest5_13
     case hy5_13 => (intro w hSw; (try dsimp only at hSw); go_simp; try with_reducible rfl)
     try simp only [gA, gB, gC, pN, pU, pL, pZ, pS]
     refine wpAnyE_done (by kernel_rfl) ?_ _
     clear G hHeld
     try simp only [Exit.then]
     try simp only [gA, gB, gC, pN, pU, pL, pZ, pS]
     go_wp2_with fail
     go_meet
     refine ⟨_, vc, vt, vs, vtx, vsh, vnet, vtk, vpy, A8, n8, c8, rfl, rfl, Lib.hid (HF8.out), HSV⟩
   case rest =>
    obtain ⟨g4, vc, vt, vs, vtx, vsh, vnet, vtk, vpy, A8, n8, c8, rfl, rfl, HFc, HC4_0⟩ := hcut
    have HF5 := HFc
    clear HFc HF4
    have qz := HF5.out.b 0 rfl
    have c0_0 := qz.cv 0 (.int .i64 0) rfl
    have f0_0 := qz.free 0
    have c0_1 := qz.cv 1 (.int .i64 0) rfl
    have f0_1 := qz.free 1
    have c0_2 := qz.cv 2 (.int .i64 0) rfl
    have f0_2 := qz.free 2
    have c0_3 := qz.cv 3 (.int .i64 0) rfl
    have f0_3 := qz.free 3
    have c0_4 := qz.cv 4 (.int .i64 0) rfl
    have f0_4 := qz.free 4
    have c0_5 := qz.cv 5 (.int .i64 0) rfl
    have f0_5 := qz.free 5
    have c0_6 := qz.cv 6 (.slice none 0 0) rfl
    have f0_6 := qz.free 6
    have c0_7 := qz.cv 7 (.int .i64 0) rfl
    have f0_7 := qz.free 7
    have c0_8 := qz.cv 8 (.slice none 0 0) rfl
    have f0_8 := qz.free 8
    have c0_9 := qz.cv 9 (.int .i64 0) rfl
    have f0_9 := qz.free 9
    clear qz
    by_cases h0 : E4 = 0
    case neg =>
     have tr : (E4 != 0) = true := by simpa using h0
     have HE : Hid (re = E4) := H4.out
     have HN0 : Hid (re ≠ 0) := by unfold Hid; rw [HE.out]; exact h0
     clear h0
     have qz := HF5.out.b 0 rfl
     have c0_0_5 := qz.cv 0 (.int .i64 0) rfl
     have f0_0_5 := qz.free 0
     have c0_1_5 := qz.cv 1 (.int .i64 0) rfl
     have f0_1_5 := qz.free 1
     have c0_2_5 := qz.cv 2 (.int .i64 0) rfl
     have f0_2_5 := qz.free 2
     have c0_3_5 := qz.cv 3 (.int .i64 0) rfl
     have f0_3_5 := qz.free 3
     have c0_4_5 := qz.cv 4 (.int .i64 0) rfl
     have f0_4_5 := qz.free 4
     have c0_5_5 := qz.cv 5 (.int .i64 0) rfl
     have f0_5_5 := qz.free 5
     have c0_6_5 := qz.cv 6 (.slice none 0 0) rfl
     have f0_6_5 := qz.free 6
     have c0_7_5 := qz.cv 7 (.int .i64 0) rfl
     have f0_7_5 := qz.free 7
     have c0_8_5 := qz.cv 8 (.slice none 0 0) rfl
     have f0_8_5 := qz.free 8
     have c0_9_5 := qz.cv 9 (.int .i64 0) rfl
     have f0_9_5 := qz.free 9
     clear qz
     go_wp2_with fail
     refine bodyPost_ret (v := .tuple #[.agg #[.int .i64 0, .int .i64 0, .int .i64 0, .int .i64 0, .int .i64 0, .int .i64 0, .slice none 0 0, .int .i64 0, .slice none 0 0, .int .i64 0], .int .i64 E4]) (by simp [results, Tryz.results64, go_sem, c0_0, c0_1, c0_2, c0_3, c0_4, c0_5, c0_6, c0_7, c0_8, c0_9, c0_0_5, c0_1_5, c0_2_5, c0_3_5, c0_4_5, c0_5_5, c0_6_5, c0_7_5, c0_8_5, c0_9_5]) rfl ⟨⟨sp0, none, 0, 0, none, 0, 0, by rw [HE.out]; rfl, SlipV.err HN0.out⟩, ?_⟩
     have hg := HF5.out.ge 0 rfl
     exact below_put10 HF5.out.bl hg (.int .i64 0) (.int .i64 0) (.int .i64 0) (.int .i64 0) (.int .i64 0) (.int .i64 0) (.slice none 0 0) (.int .i64 0) (.slice none 0 0) (.int .i64 0)
    have H5 : Hid (re = 0) := H4.out.trans h0
    subst h0
    clear c0_0 f0_0 c0_1 f0_1 c0_2 f0_2 c0_3 f0_3 c0_4 f0_4 c0_5 f0_5 c0_6 f0_6 c0_7 f0_7 c0_8 f0_8 c0_9 f0_9
    have qz := HF5.out.b 2 rfl
    have c2_0 := qz.cv 0 (.int .i64 zp) rfl
    have c2_1 := qz.cv 1 (.int .i64 zc) rfl
    have c2_2 := qz.cv 2 (.int .i64 zt) rfl
    have c2_3 := qz.cv 3 (.int .i64 zs) rfl
    have c2_4 := qz.cv 4 (.int .i64 ztx) rfl
    have c2_5 := qz.cv 5 (.int .i64 zsh) rfl
    have c2_6 := qz.cv 6 (.slice A7 n7 c7) rfl
    have c2_7 := qz.cv 7 (.int .i64 znet) rfl
    have c2_8 := qz.cv 8 (.slice B7 m7 d7) rfl
    have c2_9 := qz.cv 9 (.int .i64 zpy) rfl
    clear qz
    have qz := HF5.out.b 0 rfl
    have c0_0 := qz.cv 0 (.int .i64 0) rfl
    have f0_0 := qz.free 0
    have c0_1 := qz.cv 1 (.int .i64 0) rfl
    have f0_1 := qz.free 1
    have c0_2 := qz.cv 2 (.int .i64 0) rfl
    have f0_2 := qz.free 2
    have c0_3 := qz.cv 3 (.int .i64 0) rfl
    have f0_3 := qz.free 3
    have c0_4 := qz.cv 4 (.int .i64 0) rfl
    have f0_4 := qz.free 4
    have c0_5 := qz.cv 5 (.int .i64 0) rfl
    have f0_5 := qz.free 5
    have c0_6 := qz.cv 6 (.slice none 0 0) rfl
    have f0_6 := qz.free 6
    have c0_7 := qz.cv 7 (.int .i64 0) rfl
    have f0_7 := qz.free 7
    have c0_8 := qz.cv 8 (.slice none 0 0) rfl
    have f0_8 := qz.free 8
    have c0_9 := qz.cv 9 (.int .i64 0) rfl
    have f0_9 := qz.free 9
    clear qz
    go_wp2_with fail
    have hg := HF5.out.ge 0 rfl
    refine bodyPost_ret (v := .tuple #[.agg #[.int .i64 zp, .int .i64 zc, .int .i64 zt, .int .i64 zs, .int .i64 ztx, .int .i64 zsh, .slice A7 n7 c7, .int .i64 znet, .slice B7 m7 d7, .int .i64 zpy], .int .i64 0]) (by simp [results, Tryz.results64, go_sem, c0_0, c0_1, c0_2, c0_3, c0_4, c0_5, c0_6, c0_7, c0_8, c0_9]) rfl ⟨⟨(Sp.mk zp (Bs.mk zc zt zs) ztx zsh zrows znet ztk zpy), A7, n7, c7, B7, m7, d7, by rw [H5.out], ?_⟩, below_put10 HF5.out.bl hg (.int .i64 zp) (.int .i64 zc) (.int .i64 zt) (.int .i64 zs) (.int .i64 ztx) (.int .i64 zsh) (.slice A7 n7 c7) (.int .i64 znet) (.slice B7 m7 d7) (.int .i64 zpy)⟩
    rw [H5.out]
    exact HC4_0.out.grown (HF5.out.b 0 rfl) (by decide) (by decide) (put10_gr _ _ (.int .i64 zp) (.int .i64 zc) (.int .i64 zt) (.int .i64 zs) (.int .i64 ztx) (.int .i64 zsh) (.slice A7 n7 c7) (.int .i64 znet) (.slice B7 m7 d7) (.int .i64 zpy))
end Go.Proofs.YtmlphohnegmgkaaGreat
