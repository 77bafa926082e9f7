/-
  Layer 21: an employee is paid by a table that is accepted alone. Conditions as named.
-/
import Derived.Test.YtmlphohnegmgkaaGreatPays
import Derived.Test.YtmlphohnegmgkaaGreatM3
import Derived.Test.YtmlphohnegmgkaaGreatM4
import Derived.Laws.StructEq
namespace Go.Proofs.YtmlphohnegmgkaaGreat
set_option linter.unusedVariables false
set_option linter.unusedSimpArgs false
open Go.RowKit
set_option maxRecDepth 100000 in
theorem rnew_nil (t : Tb) (As Ac Ak : Option Addr) (ns cs nc cc nk ck : Nat) (lim rnd : Int) (c : Cd) (w : World) (hs : ScSl w As ns t.sch) (hc : CtSl w Ac nc t.cts) (hcc : nc ≤ cc) (hkd : KdSl w Ak nk t.kds) (hck : nk ≤ ck) (hl : lim = t.lim) (hr : rnd = t.rnd) (hk : keepE t = 0) (hf : fitE t.sch c = 0) :
    Calls Tryz.prog 42 #[.agg #[.slice As ns cs, .slice Ac nc cc, .slice Ak nk ck, .int .i64 lim, .int .i64 rnd], .pointer none, .agg #[.int .i64 c.s, .int .i64 c.k, .int .i64 c.a, .int .i64 c.f, .bool c.al]] w fun e w' => e = .returned (.tuple #[.pointer none, .int .i64 3]) ∧ Below w.heap.size w w' := by
  have HF0 := Lib.hid (Fr.start w)
  obtain ⟨E1, hE1⟩ : ∃ E1, E1 = keepE t := ⟨_, rfl⟩
  have K1 := Lib.hid (fun W (hW : Below w.heap.size w W) => kcheck_c t As Ac Ak ns cs nc cc nk ck lim rnd W (hs.below hW) (hc.below hW) hcc (hkd.below hW) hck hl hr 0 hk.symm)
  have K2 := Lib.hid (fun W (hW : Below w.heap.size w W) => tfits_c t.sch As Ac Ak ns cs nc cc nk ck lim rnd c.s c.k c.a c.f c.al W (hs.below hW) 0 hf.symm)
  clear hs hc hcc hkd hck hl hr hk hf hE1
  have hx := ((HF0.out.al 26 #[.slice As ns cs, .slice Ac nc cc, .slice Ak nk ck, .int .i64 lim, .int .i64 rnd]).al 28 #[.int .i64 c.s, .int .i64 c.k, .int .i64 c.a, .int .i64 c.f, .bool c.al])
  try simp only [sizN] at hx
  have HF1 := Lib.hid hx
  clear hx HF0
  go_enter Tryz.func42, Tryz.ntmps42
  have c0_0 := (HF1.out.b 0 rfl).cv 0 (.slice As ns cs) rfl
  have c0_1 := (HF1.out.b 0 rfl).cv 1 (.slice Ac nc cc) rfl
  have c0_2 := (HF1.out.b 0 rfl).cv 2 (.slice Ak nk ck) rfl
  have c0_3 := (HF1.out.b 0 rfl).cv 3 (.int .i64 lim) rfl
  have c0_4 := (HF1.out.b 0 rfl).cv 4 (.int .i64 rnd) rfl
  go_wp2_with fail
  refine (K1.out _ HF1.out.bl).mono ?_
  rintro e W1 ⟨rfl, hb⟩
  clear c0_0 c0_1 c0_2 c0_3 c0_4
  have HF2 := Lib.hid (HF1.out.ca hb)
  clear hb HF1
  have c0_0 := (HF2.out.b 0 rfl).cv 0 (.slice As ns cs) rfl
  have c0_1 := (HF2.out.b 0 rfl).cv 1 (.slice Ac nc cc) rfl
  have c0_2 := (HF2.out.b 0 rfl).cv 2 (.slice Ak nk ck) rfl
  have c0_3 := (HF2.out.b 0 rfl).cv 3 (.int .i64 lim) rfl
  have c0_4 := (HF2.out.b 0 rfl).cv 4 (.int .i64 rnd) rfl
  have c1_0 := (HF2.out.b 1 rfl).cv 0 (.int .i64 c.s) rfl
  have c1_1 := (HF2.out.b 1 rfl).cv 1 (.int .i64 c.k) rfl
  have c1_2 := (HF2.out.b 1 rfl).cv 2 (.int .i64 c.a) rfl
  have c1_3 := (HF2.out.b 1 rfl).cv 3 (.int .i64 c.f) rfl
  have c1_4 := (HF2.out.b 1 rfl).cv 4 (.bool c.al) rfl
  go_wp2_with fail
  refine (K2.out _ HF2.out.bl).mono ?_
  rintro e W2 ⟨rfl, hb⟩
  clear c0_0 c0_1 c0_2 c0_3 c0_4 c1_0 c1_1 c1_2 c1_3 c1_4
  have HF3 := Lib.hid (HF2.out.ca hb)
  clear hb HF2
  go_wp2_with fail
  refine bodyPost_ret (v := .tuple #[.pointer none, .int .i64 3]) (by simp [results, Tryz.results42, go_sem]) rfl ⟨rfl, HF3.out.bl⟩
set_option maxRecDepth 100000 in
set_option maxHeartbeats 6400000 in
theorem runNew_walk (t : Tb) (As Ac Ak : Option Addr) (ns cs nc cc nk ck : Nat) (lim rnd : Int) (c : Cd) (w : World) (hs : ScSl w As ns t.sch) (hc : CtSl w Ac nc t.cts) (hcc : nc ≤ cc) (hkd : KdSl w Ak nk t.kds) (hck : nk ≤ ck) (hl : lim = t.lim) (hr : rnd = t.rnd) (hn : ns ≤ 9223372036854775807 ∧ nc ≤ 9223372036854775807 ∧ nk ≤ 9223372036854775807) :
    Calls Tryz.prog 8 #[.agg #[.slice As ns cs, .slice Ac nc cc, .slice Ak nk ck, .int .i64 lim, .int .i64 rnd], .agg #[.int .i64 c.s, .int .i64 c.k, .int .i64 c.a, .int .i64 c.f, .bool c.al]] w fun e w' => e = .returned (.bool true) ∧ Below w.heap.size w w' := by
  have HF0 := Lib.hid (Fr.start w)
  obtain ⟨E1, hE1⟩ : ∃ E1, E1 = keepE t := ⟨_, rfl⟩
  obtain ⟨E2, hE2⟩ : ∃ E1, E1 = fitE t.sch c := ⟨_, rfl⟩
  have K1 := Lib.hid (fun W (hW : Below w.heap.size w W) => kcheck_c t As Ac Ak ns cs nc cc nk ck lim rnd W (hs.below hW) (hc.below hW) hcc (hkd.below hW) hck hl hr E1 hE1)
  have K2 := Lib.hid (fun W (hW : Below w.heap.size w W) => tfits_c t.sch As Ac Ak ns cs nc cc nk ck lim rnd c.s c.k c.a c.f c.al W (hs.below hW) E2 hE2)
  have KN := Lib.hid (fun (hsz : ns ≤ 20 ∧ nc ≤ 20 ∧ nk ≤ 30) (re : Int) (he : Hid (re = newE t c)) (W : World) (gy : Nat) (hW : Below w.heap.size w W) (hy : YrAt W gy 4 365) => pe_new (w0 := w) hW t As Ac Ak ns cs nc cc nk ck lim rnd 4 365 (by decide) (by decide) gy c (hs.below hW) (hc.below hW) hcc (hkd.below hW) hck hl hr hsz hy re he)
  have K3 := Lib.hid (fun W (hW : Below w.heap.size w W) (hk : keepE t = 0) (hf : fitE t.sch c = 0) => rnew_nil t As Ac Ak ns cs nc cc nk ck lim rnd c W (hs.below hW) (hc.below hW) hcc (hkd.below hW) hck hl hr hk hf)
  have KS := Lib.hid (fun W (hW : Below w.heap.size w W) (Bs Bc Bk : Option Addr) (ms ds mc dc mk dk : Nat) (hs2 : ScSl W Bs ms t.sch) (hc2 : CtSl W Bc mc t.cts) (hk2 : KdSl W Bk mk t.kds) => (tsame_p t.sch t.sch t.cts t.cts t.kds t.kds t.lim t.rnd lim rnd Bs Bc Bk As Ac Ak ms ds mc dc mk dk ns cs nc cc nk ck W hs2 hc2 hk2 (hs.below hW) (hc.below hW) (hkd.below hW)).mono fun _ _ h => SameR.yes h (by rw [hl, hr]))
  have HE1 := Lib.hid hE1
  have HE2 := Lib.hid hE2
  clear hs hc hcc hkd hck hl hr hE1 hE2
  have hx := ((HF0.out.al 26 #[.slice As ns cs, .slice Ac nc cc, .slice Ak nk ck, .int .i64 lim, .int .i64 rnd]).al 28 #[.int .i64 c.s, .int .i64 c.k, .int .i64 c.a, .int .i64 c.f, .bool c.al])
  try simp only [sizN] at hx
  have HF1 := Lib.hid hx
  clear hx HF0
  go_enter Tryz.func8, Tryz.ntmps8
  go_wp2_with fail
  refine (pays_c _).mono ?_
  rintro e W1 ⟨rfl, hb⟩
  have HF2 := Lib.hid (HF1.out.ca hb)
  clear hb HF1
  by_cases zns : 20 < ns
  case pos =>
    have qns : decide (20 < (ns : Int)) = true := decide_eq_true (by omega)
    have rns : decide ((ns : Int) > 20) = true := decide_eq_true (by omega)
    have c0_0 := (HF2.out.b 0 rfl).cv 0 (.slice As ns cs) rfl
    have c0_1 := (HF2.out.b 0 rfl).cv 1 (.slice Ac nc cc) rfl
    have c0_2 := (HF2.out.b 0 rfl).cv 2 (.slice Ak nk ck) rfl
    have c0_3 := (HF2.out.b 0 rfl).cv 3 (.int .i64 lim) rfl
    have c0_4 := (HF2.out.b 0 rfl).cv 4 (.int .i64 rnd) rfl
    go_wp2_with fail
    refine bodyPost_ret (v := .bool true) (by simp [results, Tryz.results8, go_sem]) rfl ⟨rfl, HF2.out.bl⟩
  have qns : decide (20 < (ns : Int)) = false := decide_eq_false (by omega)
  have rns : decide ((ns : Int) > 20) = false := decide_eq_false (by omega)
  by_cases znc : 20 < nc
  case pos =>
    have qnc : decide (20 < (nc : Int)) = true := decide_eq_true (by omega)
    have rnc : decide ((nc : Int) > 20) = true := decide_eq_true (by omega)
    have c0_0 := (HF2.out.b 0 rfl).cv 0 (.slice As ns cs) rfl
    have c0_1 := (HF2.out.b 0 rfl).cv 1 (.slice Ac nc cc) rfl
    have c0_2 := (HF2.out.b 0 rfl).cv 2 (.slice Ak nk ck) rfl
    have c0_3 := (HF2.out.b 0 rfl).cv 3 (.int .i64 lim) rfl
    have c0_4 := (HF2.out.b 0 rfl).cv 4 (.int .i64 rnd) rfl
    go_wp2_with fail
    refine bodyPost_ret (v := .bool true) (by simp [results, Tryz.results8, go_sem]) rfl ⟨rfl, HF2.out.bl⟩
  have qnc : decide (20 < (nc : Int)) = false := decide_eq_false (by omega)
  have rnc : decide ((nc : Int) > 20) = false := decide_eq_false (by omega)
  by_cases znk : 30 < nk
  case pos =>
    have qnk : decide (30 < (nk : Int)) = true := decide_eq_true (by omega)
    have rnk : decide ((nk : Int) > 30) = true := decide_eq_true (by omega)
    have c0_0 := (HF2.out.b 0 rfl).cv 0 (.slice As ns cs) rfl
    have c0_1 := (HF2.out.b 0 rfl).cv 1 (.slice Ac nc cc) rfl
    have c0_2 := (HF2.out.b 0 rfl).cv 2 (.slice Ak nk ck) rfl
    have c0_3 := (HF2.out.b 0 rfl).cv 3 (.int .i64 lim) rfl
    have c0_4 := (HF2.out.b 0 rfl).cv 4 (.int .i64 rnd) rfl
    go_wp2_with fail
    refine bodyPost_ret (v := .bool true) (by simp [results, Tryz.results8, go_sem]) rfl ⟨rfl, HF2.out.bl⟩
  have qnk : decide (30 < (nk : Int)) = false := decide_eq_false (by omega)
  have rnk : decide ((nk : Int) > 30) = false := decide_eq_false (by omega)
  have HSZ : Hid (ns ≤ 20 ∧ nc ≤ 20 ∧ nk ≤ 30) := by unfold Hid; omega
  clear hn zns znc znk
  have c0_0 := (HF2.out.b 0 rfl).cv 0 (.slice As ns cs) rfl
  have c0_1 := (HF2.out.b 0 rfl).cv 1 (.slice Ac nc cc) rfl
  have c0_2 := (HF2.out.b 0 rfl).cv 2 (.slice Ak nk ck) rfl
  have c0_3 := (HF2.out.b 0 rfl).cv 3 (.int .i64 lim) rfl
  have c0_4 := (HF2.out.b 0 rfl).cv 4 (.int .i64 rnd) rfl
  go_upto_region 5 with fail
  clear c0_0 c0_1 c0_2 c0_3 c0_4
  clear qns rns qnc rnc qnk rnk
  by_cases h0 : E1 = 0
  case neg =>
    have HNE : Hid (newE t c = E1) := by unfold Hid newE; rw [← HE1.out]; exact seqE_no h0
    have HNZ : Hid (E1 ≠ 0) := h0
    obtain ⟨EN, hEN⟩ : ∃ e, e = E1 := ⟨_, rfl⟩
    rw [← hEN] at HNE HNZ h0 K1
    have tr : (EN != 0) = true := by simpa using h0
    have tr2 : (EN == 0) = false := by simpa using h0
    clear h0 hEN HE1 HE2 K2 K3 KS
    have KNx : Hid (∀ (W : World) (gy : Nat) (hW : Below w.heap.size w W) (hy : YrAt W gy 4 365), Calls Tryz.prog 42 #[.agg #[.slice As ns cs, .slice Ac nc cc, .slice Ak nk ck, .int .i64 lim, .int .i64 rnd], .pointer (some ⟨gy, 0, none⟩), .agg #[.int .i64 c.s, .int .i64 c.k, .int .i64 c.a, .int .i64 c.f, .bool c.al]] W fun e w' => e = .returned (.tuple #[.pointer none, .int .i64 EN]) ∧ Below W.heap.size W w') := fun W gy hW hy => (KN.out HSZ.out EN (Lib.hid HNE.out.symm) W gy hW hy).mono fun e w' h => ⟨h.2.1 HNZ.out, h.2.2⟩
    clear KN
    go_wp2_with fail
    have G : Hid (∀ W, Fr w W [(w.heap.size, 26, #[.slice As ns cs, .slice Ac nc cc, .slice Ak nk ck, .int .i64 lim, .int .i64 rnd]), (w.heap.size + 1, 28, #[.int .i64 c.s, .int .i64 c.k, .int .i64 c.a, .int .i64 c.f, .bool c.al])] → Below w.heap.size w W ∧ (W.cell? ⟨w.heap.size, 0, none⟩ = some (.slice As ns cs) ∧ W.cell? ⟨w.heap.size, 1, none⟩ = some (.slice Ac nc cc) ∧ W.cell? ⟨w.heap.size, 2, none⟩ = some (.slice Ak nk ck) ∧ W.cell? ⟨w.heap.size, 3, none⟩ = some (.int .i64 lim) ∧ W.cell? ⟨w.heap.size, 4, none⟩ = some (.int .i64 rnd) ∧ W.cell? ⟨w.heap.size + 1, 0, none⟩ = some (.int .i64 c.s) ∧ W.cell? ⟨w.heap.size + 1, 1, none⟩ = some (.int .i64 c.k) ∧ W.cell? ⟨w.heap.size + 1, 2, none⟩ = some (.int .i64 c.a) ∧ W.cell? ⟨w.heap.size + 1, 3, none⟩ = some (.int .i64 c.f) ∧ W.cell? ⟨w.heap.size + 1, 4, none⟩ = some (.bool c.al))) := fun W hW => ⟨hW.bl, (hW.b 0 rfl).cv 0 _ rfl, (hW.b 0 rfl).cv 1 _ rfl, (hW.b 0 rfl).cv 2 _ rfl, (hW.b 0 rfl).cv 3 _ rfl, (hW.b 0 rfl).cv 4 _ rfl, (hW.b 1 rfl).cv 0 _ rfl, (hW.b 1 rfl).cv 1 _ rfl, (hW.b 1 rfl).cv 2 _ rfl, (hW.b 1 rfl).cv 3 _ rfl, (hW.b 1 rfl).cv 4 _ rfl⟩
    have HF3 := Lib.hid (HF2.out.dr)
    refine wp_region_E (fun W => Below w.heap.size w W ∧ (W.cell? ⟨w.heap.size, 0, none⟩ = some (.slice As ns cs) ∧ W.cell? ⟨w.heap.size, 1, none⟩ = some (.slice Ac nc cc) ∧ W.cell? ⟨w.heap.size, 2, none⟩ = some (.slice Ak nk ck) ∧ W.cell? ⟨w.heap.size, 3, none⟩ = some (.int .i64 lim) ∧ W.cell? ⟨w.heap.size, 4, none⟩ = some (.int .i64 rnd) ∧ W.cell? ⟨w.heap.size + 1, 0, none⟩ = some (.int .i64 c.s) ∧ W.cell? ⟨w.heap.size + 1, 1, none⟩ = some (.int .i64 c.k) ∧ W.cell? ⟨w.heap.size + 1, 2, none⟩ = some (.int .i64 c.a) ∧ W.cell? ⟨w.heap.size + 1, 3, none⟩ = some (.int .i64 c.f) ∧ W.cell? ⟨w.heap.size + 1, 4, none⟩ = some (.bool c.al))) 9 (by kernel_rfl) (G.out _ HF3.out) (fun hHeld => ?_)
    refine tkE (i := 0) (v := ?v2_1) rfl (by kernel_rfl) (fun _ _ _ h => h) (Or.inl ⟨by rfl, ?hy2_1⟩) (by assumption) ?rest2_1
    case hy2_1 => (intro w hSw; (try dsimp only at hSw); go_simp; try with_reducible rfl)
    try simp only [gA, gB, gC, pN, pU, pL, pZ, pS]
    refine tkE (i := 2) (v := ?v2_2) rfl (by kernel_rfl) (fun _ _ _ h => h) (Or.inl ⟨by rfl, ?hy2_2⟩) (by assumption) ?rest2_2
    case hy2_2 => (intro w hSw; (try dsimp only at hSw); go_simp; try with_reducible rfl)
    try simp only [gA, gB, gC, pN, pU, pL, pZ, pS]
    refine wpAnyE_one (i := 1) (by kernel_rfl) rfl (fun Kx hK => ?_)
    go_simp
    go_at_call 43
    refine (months21_c _).mono ?_
    rintro e W3 ⟨⟨gy, rfl, hy⟩, hb⟩
    have HF4 := Lib.hid (HF3.out.ca hb)
    have HYR := Lib.hid hy
    clear hy
    clear hb
    refine hK.out _ _ (G.out _ HF4.out) (fun hHeld => ?_)
    clear hK Kx
    try simp only [gA, gB, gC, pN, pU, pL, pZ, pS]
    refine wpAnyE_one (i := 3) (by kernel_rfl) rfl (fun Kx hK => ?_)
    go_simp
    go_at_call 42
    refine (KNx.out _ gy HF4.out.bl (HYR.out.t (b0 _))).mono ?_
    rintro e W4 ⟨rfl, hb⟩
    have HF5 := Lib.hid (HF4.out.ca hb)
    clear HYR
    clear hb
    refine hK.out _ _ (G.out _ HF5.out) (fun hHeld => ?_)
    clear hK Kx
    try simp only [gA, gB, gC, pN, pU, pL, pZ, pS]
    refine tkE (i := 4) (v := ?v4_3) rfl (by kernel_rfl) (fun _ _ _ h => h) (Or.inl ⟨by rfl, ?hy4_3⟩) (by assumption) ?rest4_3
    case hy4_3 => (intro w hSw; (try dsimp only at hSw); go_simp; try with_reducible rfl)
    try simp only [gA, gB, gC, pN, pU, pL, pZ, pS]
    refine tkE (i := 5) (v := ?v4_4) rfl (by kernel_rfl) (fun _ _ _ h => h) (Or.inl ⟨by rfl, ?hy4_4⟩) (by assumption) ?rest4_4
    case hy4_4 => (intro w hSw; (try dsimp only at hSw); go_simp; try with_reducible rfl)
    try simp only [gA, gB, gC, pN, pU, pL, pZ, pS]
    refine tkE (i := 6) (v := ?v4_5) rfl (by kernel_rfl) (fun _ _ _ h => h) (Or.inl ⟨by rfl, ?hy4_5⟩) (by assumption) ?rest4_5
    case hy4_5 => (intro w hSw; (try dsimp only at hSw); go_simp; try with_reducible rfl)
    try simp only [gA, gB, gC, pN, pU, pL, pZ, pS]
    refine tkE (i := 7) (v := ?v4_6) rfl (by kernel_rfl) (fun _ _ _ h => h) (Or.inl ⟨by rfl, ?hy4_6⟩) (by assumption) ?rest4_6
    case hy4_6 => (intro w hSw; (try dsimp only at hSw); go_simp; try with_reducible rfl)
    try simp only [gA, gB, gC, pN, pU, pL, pZ, pS]
    refine tkE (i := 8) (v := ?v4_7) rfl (by kernel_rfl) (fun _ _ _ h => h) (Or.inl ⟨by rfl, ?hy4_7⟩) (by assumption) ?rest4_7
    case hy4_7 => (intro w hSw; (try dsimp only at hSw); go_simp; try with_reducible rfl)
    try simp only [gA, gB, gC, pN, pU, pL, pZ, pS]
    refine wpAnyE_done (by kernel_rfl) ?_ _
    clear G hHeld
    try simp only [Exit.then]
    try simp only [gA, gB, gC, pN, pU, pL, pZ, pS]
    have c0_0 := (HF5.out.b 0 rfl).cv 0 (.slice As ns cs) rfl
    have c0_1 := (HF5.out.b 0 rfl).cv 1 (.slice Ac nc cc) rfl
    have c0_2 := (HF5.out.b 0 rfl).cv 2 (.slice Ak nk ck) rfl
    have c0_3 := (HF5.out.b 0 rfl).cv 3 (.int .i64 lim) rfl
    have c0_4 := (HF5.out.b 0 rfl).cv 4 (.int .i64 rnd) rfl
    go_wp2_with fail
    refine (K1.out _ HF5.out.bl).mono ?_
    rintro e W6 ⟨rfl, hb⟩
    clear c0_0 c0_1 c0_2 c0_3 c0_4
    have HF6 := Lib.hid (HF5.out.ca hb)
    clear hb HF5
    go_wp2_with fail
    refine bodyPost_ret (v := .bool true) (by simp [results, Tryz.results8, go_sem]) rfl ⟨rfl, HF6.out.bl⟩
  have HK0 : Hid (keepE t = 0) := HE1.out.symm.trans h0
  subst h0
  clear HE1
  by_cases h0 : E2 = 0
  case neg =>
    have HNE : Hid (newE t c = E2) := by unfold Hid newE; rw [seqE_ok HK0.out]; exact HE2.out.symm
    have HNZ : Hid (E2 ≠ 0) := h0
    obtain ⟨EN, hEN⟩ : ∃ e, e = E2 := ⟨_, rfl⟩
    rw [← hEN] at HNE HNZ h0 K2
    have tr : (EN != 0) = true := by simpa using h0
    have tr2 : (EN == 0) = false := by simpa using h0
    clear h0 hEN HE2 K3 KS HK0
    have KNx : Hid (∀ (W : World) (gy : Nat) (hW : Below w.heap.size w W) (hy : YrAt W gy 4 365), Calls Tryz.prog 42 #[.agg #[.slice As ns cs, .slice Ac nc cc, .slice Ak nk ck, .int .i64 lim, .int .i64 rnd], .pointer (some ⟨gy, 0, none⟩), .agg #[.int .i64 c.s, .int .i64 c.k, .int .i64 c.a, .int .i64 c.f, .bool c.al]] W fun e w' => e = .returned (.tuple #[.pointer none, .int .i64 EN]) ∧ Below W.heap.size W w') := fun W gy hW hy => (KN.out HSZ.out EN (Lib.hid HNE.out.symm) W gy hW hy).mono fun e w' h => ⟨h.2.1 HNZ.out, h.2.2⟩
    clear KN
    go_wp2_with fail
    have G : Hid (∀ W, Fr w W [(w.heap.size, 26, #[.slice As ns cs, .slice Ac nc cc, .slice Ak nk ck, .int .i64 lim, .int .i64 rnd]), (w.heap.size + 1, 28, #[.int .i64 c.s, .int .i64 c.k, .int .i64 c.a, .int .i64 c.f, .bool c.al])] → Below w.heap.size w W ∧ (W.cell? ⟨w.heap.size, 0, none⟩ = some (.slice As ns cs) ∧ W.cell? ⟨w.heap.size, 1, none⟩ = some (.slice Ac nc cc) ∧ W.cell? ⟨w.heap.size, 2, none⟩ = some (.slice Ak nk ck) ∧ W.cell? ⟨w.heap.size, 3, none⟩ = some (.int .i64 lim) ∧ W.cell? ⟨w.heap.size, 4, none⟩ = some (.int .i64 rnd) ∧ W.cell? ⟨w.heap.size + 1, 0, none⟩ = some (.int .i64 c.s) ∧ W.cell? ⟨w.heap.size + 1, 1, none⟩ = some (.int .i64 c.k) ∧ W.cell? ⟨w.heap.size + 1, 2, none⟩ = some (.int .i64 c.a) ∧ W.cell? ⟨w.heap.size + 1, 3, none⟩ = some (.int .i64 c.f) ∧ W.cell? ⟨w.heap.size + 1, 4, none⟩ = some (.bool c.al))) := fun W hW => ⟨hW.bl, (hW.b 0 rfl).cv 0 _ rfl, (hW.b 0 rfl).cv 1 _ rfl, (hW.b 0 rfl).cv 2 _ rfl, (hW.b 0 rfl).cv 3 _ rfl, (hW.b 0 rfl).cv 4 _ rfl, (hW.b 1 rfl).cv 0 _ rfl, (hW.b 1 rfl).cv 1 _ rfl, (hW.b 1 rfl).cv 2 _ rfl, (hW.b 1 rfl).cv 3 _ rfl, (hW.b 1 rfl).cv 4 _ rfl⟩
    have HF3 := Lib.hid (HF2.out.dr)
    refine wp_region_E (fun W => Below w.heap.size w W ∧ (W.cell? ⟨w.heap.size, 0, none⟩ = some (.slice As ns cs) ∧ W.cell? ⟨w.heap.size, 1, none⟩ = some (.slice Ac nc cc) ∧ W.cell? ⟨w.heap.size, 2, none⟩ = some (.slice Ak nk ck) ∧ W.cell? ⟨w.heap.size, 3, none⟩ = some (.int .i64 lim) ∧ W.cell? ⟨w.heap.size, 4, none⟩ = some (.int .i64 rnd) ∧ W.cell? ⟨w.heap.size + 1, 0, none⟩ = some (.int .i64 c.s) ∧ W.cell? ⟨w.heap.size + 1, 1, none⟩ = some (.int .i64 c.k) ∧ W.cell? ⟨w.heap.size + 1, 2, none⟩ = some (.int .i64 c.a) ∧ W.cell? ⟨w.heap.size + 1, 3, none⟩ = some (.int .i64 c.f) ∧ W.cell? ⟨w.heap.size + 1, 4, none⟩ = some (.bool c.al))) 9 (by kernel_rfl) (G.out _ HF3.out) (fun hHeld => ?_)
    refine tkE (i := 0) (v := ?v2_8) rfl (by kernel_rfl) (fun _ _ _ h => h) (Or.inl ⟨by rfl, ?hy2_8⟩) (by assumption) ?rest2_8
    case hy2_8 => (intro w hSw; (try dsimp only at hSw); go_simp; try with_reducible rfl)
    try simp only [gA, gB, gC, pN, pU, pL, pZ, pS]
    refine tkE (i := 2) (v := ?v2_9) rfl (by kernel_rfl) (fun _ _ _ h => h) (Or.inl ⟨by rfl, ?hy2_9⟩) (by assumption) ?rest2_9
    case hy2_9 => (intro w hSw; (try dsimp only at hSw); go_simp; try with_reducible rfl)
    try simp only [gA, gB, gC, pN, pU, pL, pZ, pS]
    refine wpAnyE_one (i := 1) (by kernel_rfl) rfl (fun Kx hK => ?_)
    go_simp
    go_at_call 43
    refine (months21_c _).mono ?_
    rintro e W3 ⟨⟨gy, rfl, hy⟩, hb⟩
    have HF4 := Lib.hid (HF3.out.ca hb)
    have HYR := Lib.hid hy
    clear hy
    clear hb
    refine hK.out _ _ (G.out _ HF4.out) (fun hHeld => ?_)
    clear hK Kx
    try simp only [gA, gB, gC, pN, pU, pL, pZ, pS]
    refine wpAnyE_one (i := 3) (by kernel_rfl) rfl (fun Kx hK => ?_)
    go_simp
    go_at_call 42
    refine (KNx.out _ gy HF4.out.bl (HYR.out.t (b0 _))).mono ?_
    rintro e W4 ⟨rfl, hb⟩
    have HF5 := Lib.hid (HF4.out.ca hb)
    clear HYR
    clear hb
    refine hK.out _ _ (G.out _ HF5.out) (fun hHeld => ?_)
    clear hK Kx
    try simp only [gA, gB, gC, pN, pU, pL, pZ, pS]
    refine tkE (i := 4) (v := ?v4_10) rfl (by kernel_rfl) (fun _ _ _ h => h) (Or.inl ⟨by rfl, ?hy4_10⟩) (by assumption) ?rest4_10
    case hy4_10 => (intro w hSw; (try dsimp only at hSw); go_simp; try with_reducible rfl)
    try simp only [gA, gB, gC, pN, pU, pL, pZ, pS]
    refine tkE (i := 5) (v := ?v4_11) rfl (by kernel_rfl) (fun _ _ _ h => h) (Or.inl ⟨by rfl, ?hy4_11⟩) (by assumption) ?rest4_11
    case hy4_11 => (intro w hSw; (try dsimp only at hSw); go_simp; try with_reducible rfl)
    try simp only [gA, gB, gC, pN, pU, pL, pZ, pS]
    refine tkE (i := 6) (v := ?v4_12) rfl (by kernel_rfl) (fun _ _ _ h => h) (Or.inl ⟨by rfl, ?hy4_12⟩) (by assumption) ?rest4_12
    case hy4_12 => (intro w hSw; (try dsimp only at hSw); go_simp; try with_reducible rfl)
    try simp only [gA, gB, gC, pN, pU, pL, pZ, pS]
    refine tkE (i := 7) (v := ?v4_13) rfl (by kernel_rfl) (fun _ _ _ h => h) (Or.inl ⟨by rfl, ?hy4_13⟩) (by assumption) ?rest4_13
    case hy4_13 => (intro w hSw; (try dsimp only at hSw); go_simp; try with_reducible rfl)
    try simp only [gA, gB, gC, pN, pU, pL, pZ, pS]
    refine tkE (i := 8) (v := ?v4_14) rfl (by kernel_rfl) (fun _ _ _ h => h) (Or.inl ⟨by rfl, ?hy4_14⟩) (by assumption) ?rest4_14
    case hy4_14 => (intro w hSw; (try dsimp only at hSw); go_simp; try with_reducible rfl)
    try simp only [gA, gB, gC, pN, pU, pL, pZ, pS]
    refine wpAnyE_done (by kernel_rfl) ?_ _
    clear G hHeld
    try simp only [Exit.then]
    try simp only [gA, gB, gC, pN, pU, pL, pZ, pS]
    have c0_0 := (HF5.out.b 0 rfl).cv 0 (.slice As ns cs) rfl
    have c0_1 := (HF5.out.b 0 rfl).cv 1 (.slice Ac nc cc) rfl
    have c0_2 := (HF5.out.b 0 rfl).cv 2 (.slice Ak nk ck) rfl
    have c0_3 := (HF5.out.b 0 rfl).cv 3 (.int .i64 lim) rfl
    have c0_4 := (HF5.out.b 0 rfl).cv 4 (.int .i64 rnd) rfl
    go_wp2_with fail
    refine (K1.out _ HF5.out.bl).mono ?_
    rintro e W6 ⟨rfl, hb⟩
    clear c0_0 c0_1 c0_2 c0_3 c0_4
    have HF6 := Lib.hid (HF5.out.ca hb)
    clear hb HF5
    have c0_0 := (HF6.out.b 0 rfl).cv 0 (.slice As ns cs) rfl
    have c0_1 := (HF6.out.b 0 rfl).cv 1 (.slice Ac nc cc) rfl
    have c0_2 := (HF6.out.b 0 rfl).cv 2 (.slice Ak nk ck) rfl
    have c0_3 := (HF6.out.b 0 rfl).cv 3 (.int .i64 lim) rfl
    have c0_4 := (HF6.out.b 0 rfl).cv 4 (.int .i64 rnd) rfl
    have c1_0 := (HF6.out.b 1 rfl).cv 0 (.int .i64 c.s) rfl
    have c1_1 := (HF6.out.b 1 rfl).cv 1 (.int .i64 c.k) rfl
    have c1_2 := (HF6.out.b 1 rfl).cv 2 (.int .i64 c.a) rfl
    have c1_3 := (HF6.out.b 1 rfl).cv 3 (.int .i64 c.f) rfl
    have c1_4 := (HF6.out.b 1 rfl).cv 4 (.bool c.al) rfl
    go_wp2_with fail
    refine (K2.out _ HF6.out.bl).mono ?_
    rintro e W7 ⟨rfl, hb⟩
    clear c0_0 c0_1 c0_2 c0_3 c0_4 c1_0 c1_1 c1_2 c1_3 c1_4
    have HF7 := Lib.hid (HF6.out.ca hb)
    clear hb HF6
    go_wp2_with fail
    refine bodyPost_ret (v := .bool true) (by simp [results, Tryz.results8, go_sem]) rfl ⟨rfl, HF7.out.bl⟩
  have HF0 : Hid (fitE t.sch c = 0) := HE2.out.symm.trans h0
  have HNE : Hid (newE t c = 0) := by unfold Hid newE; rw [seqE_ok HK0.out]; exact HF0.out
  subst h0
  clear HE2
  have KNx : Hid (∀ (W : World) (gy : Nat) (hW : Below w.heap.size w W) (hy : YrAt W gy 4 365), Calls Tryz.prog 42 #[.agg #[.slice As ns cs, .slice Ac nc cc, .slice Ak nk ck, .int .i64 lim, .int .i64 rnd], .pointer (some ⟨gy, 0, none⟩), .agg #[.int .i64 c.s, .int .i64 c.k, .int .i64 c.a, .int .i64 c.f, .bool c.al]] W fun e w' => (∃ p y o, e = .returned (.tuple #[.pointer (some ⟨p, 0, none⟩), .int .i64 0]) ∧ PE w 4 365 w' p y o (newV t c)) ∧ Below W.heap.size W w') := fun W gy hW hy => (KN.out HSZ.out 0 (Lib.hid HNE.out.symm) W gy hW hy).mono fun e w' h => ⟨by obtain ⟨p, y, o, h1, h2, _⟩ := h.1 rfl; exact ⟨p, y, o, h1, h2⟩, h.2.2⟩
  clear KN
  go_wp2_with fail
  have G : Hid (∀ W, Fr w W [(w.heap.size, 26, #[.slice As ns cs, .slice Ac nc cc, .slice Ak nk ck, .int .i64 lim, .int .i64 rnd]), (w.heap.size + 1, 28, #[.int .i64 c.s, .int .i64 c.k, .int .i64 c.a, .int .i64 c.f, .bool c.al])] → Below w.heap.size w W ∧ (W.cell? ⟨w.heap.size, 0, none⟩ = some (.slice As ns cs) ∧ W.cell? ⟨w.heap.size, 1, none⟩ = some (.slice Ac nc cc) ∧ W.cell? ⟨w.heap.size, 2, none⟩ = some (.slice Ak nk ck) ∧ W.cell? ⟨w.heap.size, 3, none⟩ = some (.int .i64 lim) ∧ W.cell? ⟨w.heap.size, 4, none⟩ = some (.int .i64 rnd) ∧ W.cell? ⟨w.heap.size + 1, 0, none⟩ = some (.int .i64 c.s) ∧ W.cell? ⟨w.heap.size + 1, 1, none⟩ = some (.int .i64 c.k) ∧ W.cell? ⟨w.heap.size + 1, 2, none⟩ = some (.int .i64 c.a) ∧ W.cell? ⟨w.heap.size + 1, 3, none⟩ = some (.int .i64 c.f) ∧ W.cell? ⟨w.heap.size + 1, 4, none⟩ = some (.bool c.al))) := fun W hW => ⟨hW.bl, (hW.b 0 rfl).cv 0 _ rfl, (hW.b 0 rfl).cv 1 _ rfl, (hW.b 0 rfl).cv 2 _ rfl, (hW.b 0 rfl).cv 3 _ rfl, (hW.b 0 rfl).cv 4 _ rfl, (hW.b 1 rfl).cv 0 _ rfl, (hW.b 1 rfl).cv 1 _ rfl, (hW.b 1 rfl).cv 2 _ rfl, (hW.b 1 rfl).cv 3 _ rfl, (hW.b 1 rfl).cv 4 _ rfl⟩
  have HF3 := Lib.hid (HF2.out.dr)
  refine wp_region_E (fun W => Below w.heap.size w W ∧ (W.cell? ⟨w.heap.size, 0, none⟩ = some (.slice As ns cs) ∧ W.cell? ⟨w.heap.size, 1, none⟩ = some (.slice Ac nc cc) ∧ W.cell? ⟨w.heap.size, 2, none⟩ = some (.slice Ak nk ck) ∧ W.cell? ⟨w.heap.size, 3, none⟩ = some (.int .i64 lim) ∧ W.cell? ⟨w.heap.size, 4, none⟩ = some (.int .i64 rnd) ∧ W.cell? ⟨w.heap.size + 1, 0, none⟩ = some (.int .i64 c.s) ∧ W.cell? ⟨w.heap.size + 1, 1, none⟩ = some (.int .i64 c.k) ∧ W.cell? ⟨w.heap.size + 1, 2, none⟩ = some (.int .i64 c.a) ∧ W.cell? ⟨w.heap.size + 1, 3, none⟩ = some (.int .i64 c.f) ∧ W.cell? ⟨w.heap.size + 1, 4, none⟩ = some (.bool c.al))) 9 (by kernel_rfl) (G.out _ HF3.out) (fun hHeld => ?_)
  refine tkE (i := 0) (v := ?v2_15) rfl (by kernel_rfl) (fun _ _ _ h => h) (Or.inl ⟨by rfl, ?hy2_15⟩) (by assumption) ?rest2_15
  case hy2_15 => (intro w hSw; (try dsimp only at hSw); go_simp; try with_reducible rfl)
  try simp only [gA, gB, gC, pN, pU, pL, pZ, pS]
  refine tkE (i := 2) (v := ?v2_16) rfl (by kernel_rfl) (fun _ _ _ h => h) (Or.inl ⟨by rfl, ?hy2_16⟩) (by assumption) ?rest2_16
  case hy2_16 => (intro w hSw; (try dsimp only at hSw); go_simp; try with_reducible rfl)
  try simp only [gA, gB, gC, pN, pU, pL, pZ, pS]
  refine wpAnyE_one (i := 1) (by kernel_rfl) rfl (fun Kx hK => ?_)
  go_simp
  go_at_call 43
  refine (months21_c _).mono ?_
  rintro e W3 ⟨⟨gy, rfl, hy⟩, hb⟩
  have HF4 := Lib.hid (HF3.out.ca hb)
  have HYR := Lib.hid hy
  clear hy
  clear hb
  refine hK.out _ _ (G.out _ HF4.out) (fun hHeld => ?_)
  clear hK Kx
  try simp only [gA, gB, gC, pN, pU, pL, pZ, pS]
  refine wpAnyE_one (i := 3) (by kernel_rfl) rfl (fun Kx hK => ?_)
  go_simp
  go_at_call 42
  refine (KNx.out _ gy HF4.out.bl (HYR.out.t (b0 _))).mono ?_
  rintro e W4 ⟨⟨p, y, o, rfl, hp⟩, hb⟩
  have HF5 := Lib.hid (HF4.out.ca hb)
  have HPE := Lib.hid hp
  clear hp HYR
  clear hb
  refine hK.out _ _ (G.out _ HF5.out) (fun hHeld => ?_)
  clear hK Kx
  try simp only [gA, gB, gC, pN, pU, pL, pZ, pS]
  refine tkE (i := 4) (v := ?v4_17) rfl (by kernel_rfl) (fun _ _ _ h => h) (Or.inl ⟨by rfl, ?hy4_17⟩) (by assumption) ?rest4_17
  case hy4_17 => (intro w hSw; (try dsimp only at hSw); go_simp; try with_reducible rfl)
  try simp only [gA, gB, gC, pN, pU, pL, pZ, pS]
  refine tkE (i := 5) (v := ?v4_18) rfl (by kernel_rfl) (fun _ _ _ h => h) (Or.inl ⟨by rfl, ?hy4_18⟩) (by assumption) ?rest4_18
  case hy4_18 => (intro w hSw; (try dsimp only at hSw); go_simp; try with_reducible rfl)
  try simp only [gA, gB, gC, pN, pU, pL, pZ, pS]
  refine tkE (i := 6) (v := ?v4_19) rfl (by kernel_rfl) (fun _ _ _ h => h) (Or.inl ⟨by rfl, ?hy4_19⟩) (by assumption) ?rest4_19
  case hy4_19 => (intro w hSw; (try dsimp only at hSw); go_simp; try with_reducible rfl)
  try simp only [gA, gB, gC, pN, pU, pL, pZ, pS]
  refine tkE (i := 7) (v := ?v4_20) rfl (by kernel_rfl) (fun _ _ _ h => h) (Or.inl ⟨by rfl, ?hy4_20⟩) (by assumption) ?rest4_20
  case hy4_20 => (intro w hSw; (try dsimp only at hSw); go_simp; try with_reducible rfl)
  try simp only [gA, gB, gC, pN, pU, pL, pZ, pS]
  refine tkE (i := 8) (v := ?v4_21) rfl (by kernel_rfl) (fun _ _ _ h => h) (Or.inl ⟨by rfl, ?hy4_21⟩) (by assumption) ?rest4_21
  case hy4_21 => (intro w hSw; (try dsimp only at hSw); go_simp; try with_reducible rfl)
  try simp only [gA, gB, gC, pN, pU, pL, pZ, pS]
  refine wpAnyE_done (by kernel_rfl) ?_ _
  clear G hHeld
  try simp only [Exit.then]
  try simp only [gA, gB, gC, pN, pU, pL, pZ, pS]
  have c0_0 := (HF5.out.b 0 rfl).cv 0 (.slice As ns cs) rfl
  have c0_1 := (HF5.out.b 0 rfl).cv 1 (.slice Ac nc cc) rfl
  have c0_2 := (HF5.out.b 0 rfl).cv 2 (.slice Ak nk ck) rfl
  have c0_3 := (HF5.out.b 0 rfl).cv 3 (.int .i64 lim) rfl
  have c0_4 := (HF5.out.b 0 rfl).cv 4 (.int .i64 rnd) rfl
  go_wp2_with fail
  refine (K1.out _ HF5.out.bl).mono ?_
  rintro e W6 ⟨rfl, hb⟩
  clear c0_0 c0_1 c0_2 c0_3 c0_4
  have HF6 := Lib.hid (HF5.out.ca hb)
  replace HPE := Lib.hid (HPE.out.below hb)
  clear hb HF5
  have c0_0 := (HF6.out.b 0 rfl).cv 0 (.slice As ns cs) rfl
  have c0_1 := (HF6.out.b 0 rfl).cv 1 (.slice Ac nc cc) rfl
  have c0_2 := (HF6.out.b 0 rfl).cv 2 (.slice Ak nk ck) rfl
  have c0_3 := (HF6.out.b 0 rfl).cv 3 (.int .i64 lim) rfl
  have c0_4 := (HF6.out.b 0 rfl).cv 4 (.int .i64 rnd) rfl
  have c1_0 := (HF6.out.b 1 rfl).cv 0 (.int .i64 c.s) rfl
  have c1_1 := (HF6.out.b 1 rfl).cv 1 (.int .i64 c.k) rfl
  have c1_2 := (HF6.out.b 1 rfl).cv 2 (.int .i64 c.a) rfl
  have c1_3 := (HF6.out.b 1 rfl).cv 3 (.int .i64 c.f) rfl
  have c1_4 := (HF6.out.b 1 rfl).cv 4 (.bool c.al) rfl
  go_wp2_with fail
  refine (K2.out _ HF6.out.bl).mono ?_
  rintro e W7 ⟨rfl, hb⟩
  clear c0_0 c0_1 c0_2 c0_3 c0_4 c1_0 c1_1 c1_2 c1_3 c1_4
  have HF7 := Lib.hid (HF6.out.ca hb)
  replace HPE := Lib.hid (HPE.out.below hb)
  clear hb HF6
  have c0_0 := (HF7.out.b 0 rfl).cv 0 (.slice As ns cs) rfl
  have c0_1 := (HF7.out.b 0 rfl).cv 1 (.slice Ac nc cc) rfl
  have c0_2 := (HF7.out.b 0 rfl).cv 2 (.slice Ak nk ck) rfl
  have c0_3 := (HF7.out.b 0 rfl).cv 3 (.int .i64 lim) rfl
  have c0_4 := (HF7.out.b 0 rfl).cv 4 (.int .i64 rnd) rfl
  have c1_0 := (HF7.out.b 1 rfl).cv 0 (.int .i64 c.s) rfl
  have c1_1 := (HF7.out.b 1 rfl).cv 1 (.int .i64 c.k) rfl
  have c1_2 := (HF7.out.b 1 rfl).cv 2 (.int .i64 c.a) rfl
  have c1_3 := (HF7.out.b 1 rfl).cv 3 (.int .i64 c.f) rfl
  have c1_4 := (HF7.out.b 1 rfl).cv 4 (.bool c.al) rfl
  go_wp2_with fail
  refine (K3.out _ HF7.out.bl HK0.out HF0.out).mono ?_
  rintro e W8 ⟨rfl, hb⟩
  clear c0_0 c0_1 c0_2 c0_3 c0_4 c1_0 c1_1 c1_2 c1_3 c1_4
  have HF8 := Lib.hid (HF7.out.ca hb)
  replace HPE := Lib.hid (HPE.out.below hb)
  clear hb HF7
  clear K1 K2 K3 KNx HNE HK0 HF0 HSZ
  have e1 : periodI (newV t c) (cntI 4 365) = 1 := rfl
  have e2 : (newV t c).prot = 0 := rfl
  have e3 : (newV t c).next = [] := rfl
  have e4 : (newV t c).tb = t := rfl
  have e5 : (newV t c).c = c := rfl
  go_wp2_with fail
  have G : Hid (∀ W, Below W8.heap.size W8 W → Below W8.heap.size W8 W ∧ (W.cell? ⟨w.heap.size, 0, none⟩ = some (.slice As ns cs) ∧ W.cell? ⟨w.heap.size, 1, none⟩ = some (.slice Ac nc cc) ∧ W.cell? ⟨w.heap.size, 2, none⟩ = some (.slice Ak nk ck) ∧ W.cell? ⟨w.heap.size, 3, none⟩ = some (.int .i64 lim) ∧ W.cell? ⟨w.heap.size, 4, none⟩ = some (.int .i64 rnd) ∧ W.cell? ⟨w.heap.size + 1, 0, none⟩ = some (.int .i64 c.s) ∧ W.cell? ⟨w.heap.size + 1, 1, none⟩ = some (.int .i64 c.k) ∧ W.cell? ⟨w.heap.size + 1, 2, none⟩ = some (.int .i64 c.a) ∧ W.cell? ⟨w.heap.size + 1, 3, none⟩ = some (.int .i64 c.f) ∧ W.cell? ⟨w.heap.size + 1, 4, none⟩ = some (.bool c.al))) := fun W hW => ⟨hW, ((HF8.out.ca hW).b 0 rfl).cv 0 _ rfl, ((HF8.out.ca hW).b 0 rfl).cv 1 _ rfl, ((HF8.out.ca hW).b 0 rfl).cv 2 _ rfl, ((HF8.out.ca hW).b 0 rfl).cv 3 _ rfl, ((HF8.out.ca hW).b 0 rfl).cv 4 _ rfl, ((HF8.out.ca hW).b 1 rfl).cv 0 _ rfl, ((HF8.out.ca hW).b 1 rfl).cv 1 _ rfl, ((HF8.out.ca hW).b 1 rfl).cv 2 _ rfl, ((HF8.out.ca hW).b 1 rfl).cv 3 _ rfl, ((HF8.out.ca hW).b 1 rfl).cv 4 _ rfl⟩
  have hbl8 := Lib.hid HF8.out.bl
  have KP1 := Lib.hid (fun W (hW : Below W8.heap.size W8 W) => pe_period (HPE.out.below hW))
  have KP2 := Lib.hid (fun W (hW : Below W8.heap.size W8 W) => pe_taxcode (HPE.out.below hW))
  have KP3 := Lib.hid (fun W (hW : Below W8.heap.size W8 W) => pe_protd (HPE.out.below hW))
  have KP4 := Lib.hid (fun W (hW : Below W8.heap.size W8 W) => pe_next (HPE.out.below hW))
  have KP5 := Lib.hid (fun W (hW : Below W8.heap.size W8 W) => pe_table (HPE.out.below hW))
  have KP6 := Lib.hid (fun W (hW : Below W8.heap.size W8 W) => KS.out W (bT hbl8.out hW))
  have KP7 := Lib.hid (fun W (hW : Below W8.heap.size W8 W) => pe_year (HPE.out.below hW))
  have KP8 := Lib.hid (fun W (gy : Nat) (hy : YrAt W gy 4 365) => (count_c 4 365 (by decide) (by decide) gy W hy).mono (fun e w' h => (⟨h.1, h.2 ▸ b0 _⟩ : _ ∧ Below W.heap.size W w')))
  clear KS HPE
  have HTT := trivial
  have HY2 := trivial
  go_region_held3 (fun W => Below W8.heap.size W8 W ∧ (W.cell? ⟨w.heap.size, 0, none⟩ = some (.slice As ns cs) ∧ W.cell? ⟨w.heap.size, 1, none⟩ = some (.slice Ac nc cc) ∧ W.cell? ⟨w.heap.size, 2, none⟩ = some (.slice Ak nk ck) ∧ W.cell? ⟨w.heap.size, 3, none⟩ = some (.int .i64 lim) ∧ W.cell? ⟨w.heap.size, 4, none⟩ = some (.int .i64 rnd) ∧ W.cell? ⟨w.heap.size + 1, 0, none⟩ = some (.int .i64 c.s) ∧ W.cell? ⟨w.heap.size + 1, 1, none⟩ = some (.int .i64 c.k) ∧ W.cell? ⟨w.heap.size + 1, 2, none⟩ = some (.int .i64 c.a) ∧ W.cell? ⟨w.heap.size + 1, 3, none⟩ = some (.int .i64 c.f) ∧ W.cell? ⟨w.heap.size + 1, 4, none⟩ = some (.bool c.al)))
    (with_reducible (first | assumption | exact G.out _ (b0 _).drew | exact sK G.out (by assumption) (by assumption)))
    (first | (go_at_call 36; (with_reducible refine (KP1.out _ (show Below W8.heap.size W8 _ ∧ _ from by assumption).1).mono ?_); rintro e Wa ⟨rfl, hb⟩; have HBB := bT (show Below W8.heap.size W8 _ ∧ _ from by assumption).1 hb) | (go_at_call 46; (with_reducible refine (KP2.out _ (show Below W8.heap.size W8 _ ∧ _ from by assumption).1).mono ?_); rintro e Wa ⟨rfl, hb⟩; have HBB := bT (show Below W8.heap.size W8 _ ∧ _ from by assumption).1 hb) | (go_at_call 47; (with_reducible refine (KP3.out _ (show Below W8.heap.size W8 _ ∧ _ from by assumption).1).mono ?_); rintro e Wa ⟨rfl, hb⟩; have HBB := bT (show Below W8.heap.size W8 _ ∧ _ from by assumption).1 hb) | (go_at_call 48; (with_reducible refine (KP4.out _ (show Below W8.heap.size W8 _ ∧ _ from by assumption).1).mono ?_); rintro e Wa ⟨⟨An, cn, rfl, _⟩, hb⟩; have HBB := bT (show Below W8.heap.size W8 _ ∧ _ from by assumption).1 hb) | (go_at_call 50; (with_reducible refine (KP5.out _ (show Below W8.heap.size W8 _ ∧ _ from by assumption).1).mono ?_); rintro e Wa ⟨⟨Bs, ds, Bc, dc, Bk, dk, rfl, hot⟩, hb⟩; have HTT := Lib.hid hot; clear hot; have HBB := bT (show Below W8.heap.size W8 _ ∧ _ from by assumption).1 hb) | (go_at_call 49; (with_reducible refine (KP6.out _ (show Below W8.heap.size W8 _ ∧ _ from by assumption).1 Bs Bc Bk _ ds _ dc _ dk HTT.out.view.s HTT.out.view.c HTT.out.view.k).mono ?_); rintro e Wa ⟨rfl, hb⟩; clear HTT; have HBB := bT (show Below W8.heap.size W8 _ ∧ _ from by assumption).1 hb) | (go_at_call 51; (with_reducible refine (KP7.out _ (show Below W8.heap.size W8 _ ∧ _ from by assumption).1).mono ?_); rintro e Wa ⟨⟨gy2, rfl, hy⟩, hb⟩; have HY2 := Lib.hid hy; clear hy; have HBB := bT (show Below W8.heap.size W8 _ ∧ _ from by assumption).1 hb) | (go_at_call 52; (with_reducible refine (KP8.out _ gy2 HY2.out).mono ?_); rintro e Wa ⟨rfl, hb⟩; have HBB := bT (show Below W8.heap.size W8 _ ∧ _ from by assumption).1 hb))
  have HF9 := Lib.hid (HF8.out.ca HBB)
  have e6 : cntI 4 365 = 12 := cnt_m 365
  go_wp2_with fail
  refine bodyPost_ret (v := .bool true) (by simp [results, Tryz.results8, go_sem, e6]) rfl ⟨rfl, HF9.out.bl⟩
end Go.Proofs.YtmlphohnegmgkaaGreat
