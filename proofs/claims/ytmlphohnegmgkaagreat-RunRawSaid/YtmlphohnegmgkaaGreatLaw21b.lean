/-
 Layer 21: an employee to begin with. Conditions as named.
-/
import Derived.Test.YtmlphohnegmgkaaGreatPays
namespace Go.Proofs.YtmlphohnegmgkaaGreat
set_option maxRecDepth 100000
set_option maxHeartbeats 25600000
set_option linter.unusedVariables false
set_option linter.unusedSimpArgs false
open Go.RowKit
def BeginR (t : Tb) (c : Cd) (w : World) (e : Ending) (w' : World) : Prop :=
 ((∃ g p y o, e = .returned (.tuple #[.pointer (some ⟨g, 0, none⟩), .bool true]) ∧ (∃ cs, Blk w' g 118 cs ∧ cs[0]? = some (.pointer (some ⟨p, 0, none⟩))) ∧ PE w 4 365 w' p y o (newV t c)) ∨ e = .returned (.tuple #[.pointer none, .bool false])) ∧ Below w.heap.size w w'
theorem begin21_c (t : Tb) (As Ac Ak : Option Addr) (ns cs nc cc nk ck : Nat) (lim rnd : Int) (c : Cd) (w : World) (hs : ScSl w As ns t.sch) (hc : CtSl w Ac nc t.cts) (hcc : nc ≤ cc) (hkd : KdSl w Ak nk t.kds) (hck : nk ≤ ck) (hl : lim = t.lim) (hr : rnd = t.rnd) (hn : ns ≤ 9223372036854775807 ∧ nc ≤ 9223372036854775807 ∧ nk ≤ 9223372036854775807) :
  Calls Tryz.prog 53 #[.agg #[.slice As ns cs, .slice Ac nc cc, .slice Ak nk ck, .int .i64 lim, .int .i64 rnd], .agg #[.int .i64 c.s, .int .i64 c.k, .int .i64 c.a, .int .i64 c.f, .bool c.al]] w (BeginR t c w) := by
 have HF0 := Lib.hid (Fr.start w)
 obtain ⟨EN, hEN⟩ : ∃ E1, E1 = newE t c := ⟨_, rfl⟩
 have hl1 := hs.1
 have hl2 := hc.1
 have hl3 := hkd.1
 have KN := Lib.hid (fun (hsz : ns ≤ 20 ∧ nc ≤ 20 ∧ nk ≤ 30) (W : World) (gy : Nat) (hW : Below w.heap.size w W) (hy : YrAt W gy 4 365) => pe_new (w0 := w) hW t As Ac Ak ns cs nc cc nk ck lim rnd 4 365 (by decide) (by decide) gy c (hs.below hW) (hc.below hW) hcc (hkd.below hW) hck hl hr hsz hy EN hEN)
 have HLN := Lib.hid (⟨hl1, hl2, hl3⟩ : ns = t.sch.length ∧ nc = t.cts.length ∧ nk = t.kds.length)
 unfold BeginR
 clear hs hc hcc hkd hck hl hr hEN hl1 hl2 hl3
 have hx := ((HF0.out.al 26 #[.slice As ns cs, .slice Ac nc cc, .slice Ak nk ck, .int .i64 lim, .int .i64 rnd]).al 28 #[.int .i64 c.s, .int .i64 c.k, .int .i64 c.a, .int .i64 c.f, .bool c.al])
 try simp only [World.size_alloc, World.size_setCell] at hx
 have HF1 := Lib.hid hx
 clear hx HF0
 go_enter Tryz.func53, Tryz.ntmps53
 by_cases zns : 20 < ns
 case pos =>
  have qns : decide (20 < (ns : Int)) = true := decide_eq_true (by omega)
  have rns : decide ((ns : Int) > 20) = true := decide_eq_true (by omega)
  have qz := HF1.out.b 0 rfl
  have c0_0 := qz.cv 0 (.slice As ns cs) rfl
  have c0_1 := qz.cv 1 (.slice Ac nc cc) rfl
  have c0_2 := qz.cv 2 (.slice Ak nk ck) rfl
  have c0_3 := qz.cv 3 (.int .i64 lim) rfl
  have c0_4 := qz.cv 4 (.int .i64 rnd) rfl
  clear qz
  go_wp2_with fail
  refine bodyPost_ret (v := .tuple #[.pointer none, .bool false]) (by simp [results, Tryz.results53, go_sem]) rfl ⟨Or.inr rfl, HF1.out.bl⟩
 have qns : decide (20 < (ns : Int)) = false := decide_eq_false (by omega)
 have rns : decide ((ns : Int) > 20) = false := decide_eq_false (by omega)
 by_cases znc : 20 < nc
 case pos =>
  have qnc : decide (20 < (nc : Int)) = true := decide_eq_true (by omega)
  have rnc : decide ((nc : Int) > 20) = true := decide_eq_true (by omega)
  have qz := HF1.out.b 0 rfl
  have c0_0 := qz.cv 0 (.slice As ns cs) rfl
  have c0_1 := qz.cv 1 (.slice Ac nc cc) rfl
  have c0_2 := qz.cv 2 (.slice Ak nk ck) rfl
  have c0_3 := qz.cv 3 (.int .i64 lim) rfl
  have c0_4 := qz.cv 4 (.int .i64 rnd) rfl
  clear qz
  go_wp2_with fail
  refine bodyPost_ret (v := .tuple #[.pointer none, .bool false]) (by simp [results, Tryz.results53, go_sem]) rfl ⟨Or.inr rfl, HF1.out.bl⟩
 have qnc : decide (20 < (nc : Int)) = false := decide_eq_false (by omega)
 have rnc : decide ((nc : Int) > 20) = false := decide_eq_false (by omega)
 by_cases znk : 30 < nk
 case pos =>
  have qnk : decide (30 < (nk : Int)) = true := decide_eq_true (by omega)
  have rnk : decide ((nk : Int) > 30) = true := decide_eq_true (by omega)
  have qz := HF1.out.b 0 rfl
  have c0_0 := qz.cv 0 (.slice As ns cs) rfl
  have c0_1 := qz.cv 1 (.slice Ac nc cc) rfl
  have c0_2 := qz.cv 2 (.slice Ak nk ck) rfl
  have c0_3 := qz.cv 3 (.int .i64 lim) rfl
  have c0_4 := qz.cv 4 (.int .i64 rnd) rfl
  clear qz
  go_wp2_with fail
  refine bodyPost_ret (v := .tuple #[.pointer none, .bool false]) (by simp [results, Tryz.results53, go_sem]) rfl ⟨Or.inr rfl, HF1.out.bl⟩
 have qnk : decide (30 < (nk : Int)) = false := decide_eq_false (by omega)
 have rnk : decide ((nk : Int) > 30) = false := decide_eq_false (by omega)
 have HSZ : Hid (ns ≤ 20 ∧ nc ≤ 20 ∧ nk ≤ 30) := by unfold Hid; omega
 clear hn zns znc znk
 have qz := HF1.out.b 0 rfl
 have c0_0 := qz.cv 0 (.slice As ns cs) rfl
 have c0_1 := qz.cv 1 (.slice Ac nc cc) rfl
 have c0_2 := qz.cv 2 (.slice Ak nk ck) rfl
 have c0_3 := qz.cv 3 (.int .i64 lim) rfl
 have c0_4 := qz.cv 4 (.int .i64 rnd) rfl
 clear qz
 go_upto_region 3 with fail
 clear c0_0 c0_1 c0_2 c0_3 c0_4
 clear qns rns qnc rnc qnk rnk
 by_cases h0 : EN = 0
 case neg =>
  have HNZ : Hid (EN ≠ 0) := h0
  clear h0
  have KNx : Hid (∀ (W : World) (gy : Nat) (hW : Below w.heap.size w W) (hy : YrAt W gy 4 365), Calls Tryz.prog 42 #[.agg #[.slice As ns cs, .slice Ac nc cc, .slice Ak nk ck, .int .i64 lim, .int .i64 rnd], .pointer (some ⟨gy, 0, none⟩), .agg #[.int .i64 c.s, .int .i64 c.k, .int .i64 c.a, .int .i64 c.f, .bool c.al]] W fun e w' => e = .returned (.tuple #[.pointer none, .int .i64 EN]) ∧ Below W.heap.size W w') := fun W gy hW hy => (KN.out HSZ.out W gy hW hy).mono fun e w' h => ⟨h.2.1 HNZ.out, h.2.2⟩
  clear KN
  go_wp2_with fail
  have G : Hid (∀ W, Fr w W [(w.heap.size, 26, #[.slice As ns cs, .slice Ac nc cc, .slice Ak nk ck, .int .i64 lim, .int .i64 rnd]), (w.heap.size + 1, 28, #[.int .i64 c.s, .int .i64 c.k, .int .i64 c.a, .int .i64 c.f, .bool c.al])] → Below w.heap.size w W ∧ (W.cell? ⟨w.heap.size, 0, none⟩ = some (.slice As ns cs) ∧ W.cell? ⟨w.heap.size, 1, none⟩ = some (.slice Ac nc cc) ∧ W.cell? ⟨w.heap.size, 2, none⟩ = some (.slice Ak nk ck) ∧ W.cell? ⟨w.heap.size, 3, none⟩ = some (.int .i64 lim) ∧ W.cell? ⟨w.heap.size, 4, none⟩ = some (.int .i64 rnd) ∧ W.cell? ⟨w.heap.size + 1, 0, none⟩ = some (.int .i64 c.s) ∧ W.cell? ⟨w.heap.size + 1, 1, none⟩ = some (.int .i64 c.k) ∧ W.cell? ⟨w.heap.size + 1, 2, none⟩ = some (.int .i64 c.a) ∧ W.cell? ⟨w.heap.size + 1, 3, none⟩ = some (.int .i64 c.f) ∧ W.cell? ⟨w.heap.size + 1, 4, none⟩ = some (.bool c.al))) := fun W hW => ⟨hW.bl, (hW.b 0 rfl).cv 0 _ rfl, (hW.b 0 rfl).cv 1 _ rfl, (hW.b 0 rfl).cv 2 _ rfl, (hW.b 0 rfl).cv 3 _ rfl, (hW.b 0 rfl).cv 4 _ rfl, (hW.b 1 rfl).cv 0 _ rfl, (hW.b 1 rfl).cv 1 _ rfl, (hW.b 1 rfl).cv 2 _ rfl, (hW.b 1 rfl).cv 3 _ rfl, (hW.b 1 rfl).cv 4 _ rfl⟩
  have HF2 := Lib.hid (HF1.out.dr)
  refine wp_region_G G 9 (by kernel_rfl) HF2.out (fun hHeld => ?_)
  refine tkF (i := 0) (v := ?v1_1) rfl (Or.inl ⟨by rfl, ?hy1_1⟩) ?rest1_1
  case hy1_1 => (intro w hSw; (try dsimp only at hSw); go_simp; try with_reducible rfl)
  try simp only [gA, gB, gC, pN, pU, pL, pZ, pS]
  refine tkF (i := 2) (v := ?v1_2) rfl (Or.inl ⟨by rfl, ?hy1_2⟩) ?rest1_2
  case hy1_2 => (intro w hSw; (try dsimp only at hSw); go_simp; try with_reducible rfl)
  try simp only [gA, gB, gC, pN, pU, pL, pZ, pS]
  refine wpAnyE_one (i := 1) (by kernel_rfl) rfl (fun Kx hK => ?_)
  go_simp
  go_at_call 43
  refine (months21_c _).mono ?_
  rintro e W2 ⟨⟨gy, rfl, hy⟩, hb⟩
  have HF3 := Lib.hid (HF2.out.ca hb)
  have HYR := Lib.hid hy
  clear hy
  clear hb
  refine hK.out _ _ (G.out _ HF3.out) (fun hHeld => ?_)
  clear hK Kx
  try simp only [gA, gB, gC, pN, pU, pL, pZ, pS]
  refine wpAnyE_one (i := 3) (by kernel_rfl) rfl (fun Kx hK => ?_)
  go_simp
  go_at_call 42
  refine (KNx.out _ gy HF3.out.bl (HYR.out.t (b0 _))).mono ?_
  rintro e W3 ⟨rfl, hb⟩
  have HF4 := Lib.hid (HF3.out.ca hb)
  clear HYR
  clear hb
  refine hK.out _ _ (G.out _ HF4.out) (fun hHeld => ?_)
  clear hK Kx
  try simp only [gA, gB, gC, pN, pU, pL, pZ, pS]
  refine tkF (i := 4) (v := ?v3_3) rfl (Or.inl ⟨by rfl, ?hy3_3⟩) ?rest3_3
  case hy3_3 => (intro w hSw; (try dsimp only at hSw); go_simp; try with_reducible rfl)
  try simp only [gA, gB, gC, pN, pU, pL, pZ, pS]
  refine tkF (i := 5) (v := ?v3_4) rfl (Or.inl ⟨by rfl, ?hy3_4⟩) ?rest3_4
  case hy3_4 => (intro w hSw; (try dsimp only at hSw); go_simp; try with_reducible rfl)
  try simp only [gA, gB, gC, pN, pU, pL, pZ, pS]
  refine tkF (i := 6) (v := ?v3_5) rfl (Or.inl ⟨by rfl, ?hy3_5⟩) ?rest3_5
  case hy3_5 => (intro w hSw; (try dsimp only at hSw); go_simp; try with_reducible rfl)
  try simp only [gA, gB, gC, pN, pU, pL, pZ, pS]
  refine tkF (i := 7) (v := ?v3_6) rfl (Or.inl ⟨by rfl, ?hy3_6⟩) ?rest3_6
  case hy3_6 => (intro w hSw; (try dsimp only at hSw); go_simp; try with_reducible rfl)
  try simp only [gA, gB, gC, pN, pU, pL, pZ, pS]
  refine tkF (i := 8) (v := ?v3_7) rfl (Or.inl ⟨by rfl, ?hy3_7⟩) ?rest3_7
  case hy3_7 => (intro w hSw; (try dsimp only at hSw); go_simp; try with_reducible rfl)
  try simp only [gA, gB, gC, pN, pU, pL, pZ, pS]
  refine wpAnyE_done (by kernel_rfl) ?_ _
  clear G hHeld
  try simp only [Exit.then]
  try simp only [gA, gB, gC, pN, pU, pL, pZ, pS]
  go_wp2_with fail
  go_wp2_with fail
  refine bodyPost_ret (v := .tuple #[.pointer none, .bool false]) (by simp [results, Tryz.results53, go_sem]) rfl ⟨Or.inr rfl, HF4.out.bl⟩
 subst h0
 have KNx : Hid (∀ (W : World) (gy : Nat) (hW : Below w.heap.size w W) (hy : YrAt W gy 4 365), Calls Tryz.prog 42 #[.agg #[.slice As ns cs, .slice Ac nc cc, .slice Ak nk ck, .int .i64 lim, .int .i64 rnd], .pointer (some ⟨gy, 0, none⟩), .agg #[.int .i64 c.s, .int .i64 c.k, .int .i64 c.a, .int .i64 c.f, .bool c.al]] W fun e w' => (∃ p y o, e = .returned (.tuple #[.pointer (some ⟨p, 0, none⟩), .int .i64 0]) ∧ PE w 4 365 w' p y o (newV t c)) ∧ Below W.heap.size W w') := fun W gy hW hy => (KN.out HSZ.out W gy hW hy).mono fun e w' h => ⟨by obtain ⟨p, y, o, h1, h2, _⟩ := h.1 rfl; exact ⟨p, y, o, h1, h2⟩, h.2.2⟩
 clear KN
 go_wp2_with fail
 have G : Hid (∀ W, Fr w W [(w.heap.size, 26, #[.slice As ns cs, .slice Ac nc cc, .slice Ak nk ck, .int .i64 lim, .int .i64 rnd]), (w.heap.size + 1, 28, #[.int .i64 c.s, .int .i64 c.k, .int .i64 c.a, .int .i64 c.f, .bool c.al])] → Below w.heap.size w W ∧ (W.cell? ⟨w.heap.size, 0, none⟩ = some (.slice As ns cs) ∧ W.cell? ⟨w.heap.size, 1, none⟩ = some (.slice Ac nc cc) ∧ W.cell? ⟨w.heap.size, 2, none⟩ = some (.slice Ak nk ck) ∧ W.cell? ⟨w.heap.size, 3, none⟩ = some (.int .i64 lim) ∧ W.cell? ⟨w.heap.size, 4, none⟩ = some (.int .i64 rnd) ∧ W.cell? ⟨w.heap.size + 1, 0, none⟩ = some (.int .i64 c.s) ∧ W.cell? ⟨w.heap.size + 1, 1, none⟩ = some (.int .i64 c.k) ∧ W.cell? ⟨w.heap.size + 1, 2, none⟩ = some (.int .i64 c.a) ∧ W.cell? ⟨w.heap.size + 1, 3, none⟩ = some (.int .i64 c.f) ∧ W.cell? ⟨w.heap.size + 1, 4, none⟩ = some (.bool c.al))) := fun W hW => ⟨hW.bl, (hW.b 0 rfl).cv 0 _ rfl, (hW.b 0 rfl).cv 1 _ rfl, (hW.b 0 rfl).cv 2 _ rfl, (hW.b 0 rfl).cv 3 _ rfl, (hW.b 0 rfl).cv 4 _ rfl, (hW.b 1 rfl).cv 0 _ rfl, (hW.b 1 rfl).cv 1 _ rfl, (hW.b 1 rfl).cv 2 _ rfl, (hW.b 1 rfl).cv 3 _ rfl, (hW.b 1 rfl).cv 4 _ rfl⟩
 have HF2 := Lib.hid (HF1.out.dr)
 refine wp_region_G G 9 (by kernel_rfl) HF2.out (fun hHeld => ?_)
 refine tkF (i := 0) (v := ?v1_8) rfl (Or.inl ⟨by rfl, ?hy1_8⟩) ?rest1_8
 case hy1_8 => (intro w hSw; (try dsimp only at hSw); go_simp; try with_reducible rfl)
 try simp only [gA, gB, gC, pN, pU, pL, pZ, pS]
 refine tkF (i := 2) (v := ?v1_9) rfl (Or.inl ⟨by rfl, ?hy1_9⟩) ?rest1_9
 case hy1_9 => (intro w hSw; (try dsimp only at hSw); go_simp; try with_reducible rfl)
 try simp only [gA, gB, gC, pN, pU, pL, pZ, pS]
 refine wpAnyE_one (i := 1) (by kernel_rfl) rfl (fun Kx hK => ?_)
 go_simp
 go_at_call 43
 refine (months21_c _).mono ?_
 rintro e W2 ⟨⟨gy, rfl, hy⟩, hb⟩
 have HF3 := Lib.hid (HF2.out.ca hb)
 have HYR := Lib.hid hy
 clear hy
 clear hb
 refine hK.out _ _ (G.out _ HF3.out) (fun hHeld => ?_)
 clear hK Kx
 try simp only [gA, gB, gC, pN, pU, pL, pZ, pS]
 refine wpAnyE_one (i := 3) (by kernel_rfl) rfl (fun Kx hK => ?_)
 go_simp
 go_at_call 42
 refine (KNx.out _ gy HF3.out.bl (HYR.out.t (b0 _))).mono ?_
 rintro e W3 ⟨⟨p, y, o, rfl, hp⟩, hb⟩
 have HF4 := Lib.hid (HF3.out.ca hb)
 have HPE := Lib.hid hp
 clear hp HYR
 clear hb
 refine hK.out _ _ (G.out _ HF4.out) (fun hHeld => ?_)
 clear hK Kx
 try simp only [gA, gB, gC, pN, pU, pL, pZ, pS]
 refine tkF (i := 4) (v := ?v3_10) rfl (Or.inl ⟨by rfl, ?hy3_10⟩) ?rest3_10
 case hy3_10 => (intro w hSw; (try dsimp only at hSw); go_simp; try with_reducible rfl)
 try simp only [gA, gB, gC, pN, pU, pL, pZ, pS]
 refine tkF (i := 5) (v := ?v3_11) rfl (Or.inl ⟨by rfl, ?hy3_11⟩) ?rest3_11
 case hy3_11 => (intro w hSw; (try dsimp only at hSw); go_simp; try with_reducible rfl)
 try simp only [gA, gB, gC, pN, pU, pL, pZ, pS]
 refine tkF (i := 6) (v := ?v3_12) rfl (Or.inl ⟨by rfl, ?hy3_12⟩) ?rest3_12
 case hy3_12 => (intro w hSw; (try dsimp only at hSw); go_simp; try with_reducible rfl)
 try simp only [gA, gB, gC, pN, pU, pL, pZ, pS]
 refine tkF (i := 7) (v := ?v3_13) rfl (Or.inl ⟨by rfl, ?hy3_13⟩) ?rest3_13
 case hy3_13 => (intro w hSw; (try dsimp only at hSw); go_simp; try with_reducible rfl)
 try simp only [gA, gB, gC, pN, pU, pL, pZ, pS]
 refine tkF (i := 8) (v := ?v3_14) rfl (Or.inl ⟨by rfl, ?hy3_14⟩) ?rest3_14
 case hy3_14 => (intro w hSw; (try dsimp only at hSw); go_simp; try with_reducible rfl)
 try simp only [gA, gB, gC, pN, pU, pL, pZ, pS]
 refine wpAnyE_done (by kernel_rfl) ?_ _
 clear G hHeld
 try simp only [Exit.then]
 try simp only [gA, gB, gC, pN, pU, pL, pZ, pS]
 have qz := HF4.out.b 0 rfl
 have c0_0 := qz.cv 0 (.slice As ns cs) rfl
 have c0_1 := qz.cv 1 (.slice Ac nc cc) rfl
 have c0_2 := qz.cv 2 (.slice Ak nk ck) rfl
 have c0_3 := qz.cv 3 (.int .i64 lim) rfl
 have c0_4 := qz.cv 4 (.int .i64 rnd) rfl
 clear qz
 have qz := HF4.out.b 1 rfl
 have c1_0 := qz.cv 0 (.int .i64 c.s) rfl
 have c1_1 := qz.cv 1 (.int .i64 c.k) rfl
 have c1_2 := qz.cv 2 (.int .i64 c.a) rfl
 have c1_3 := qz.cv 3 (.int .i64 c.f) rfl
 have c1_4 := qz.cv 4 (.bool c.al) rfl
 clear qz
 go_wp2_with fail
 clear c0_0 c0_1 c0_2 c0_3 c0_4 c1_0 c1_1 c1_2 c1_3 c1_4
 refine bodyPost_ret (v := .tuple #[.pointer (some ⟨W3.heap.size, 0, none⟩), .bool true]) (by simp [results, Tryz.results53, go_sem]) rfl ⟨Or.inl ⟨W3.heap.size, p, y, o, rfl, ⟨_, Blk.mk W3 118 #[.pointer (some ⟨p, 0, none⟩), .slice As ns cs, .slice Ac nc cc, .slice Ak nk ck, .int .i64 lim, .int .i64 rnd, .slice none 0 0, .slice none 0 0, .int .i64 c.s, .int .i64 c.k, .int .i64 c.a, .int .i64 c.f, .bool c.al, .int .i64 0, .int .i64 0, .int .i64 0, .int .i64 0, .slice none 0 0], rfl⟩, HPE.out.below (below1 W3 (.cells #[.pointer (some ⟨p, 0, none⟩), .slice As ns cs, .slice Ac nc cc, .slice Ak nk ck, .int .i64 lim, .int .i64 rnd, .slice none 0 0, .slice none 0 0, .int .i64 c.s, .int .i64 c.k, .int .i64 c.a, .int .i64 c.f, .bool c.al, .int .i64 0, .int .i64 0, .int .i64 0, .int .i64 0, .slice none 0 0] 118))⟩, ?_⟩
 exact (HF4.out.al 118 #[.pointer (some ⟨p, 0, none⟩), .slice As ns cs, .slice Ac nc cc, .slice Ak nk ck, .int .i64 lim, .int .i64 rnd, .slice none 0 0, .slice none 0 0, .int .i64 c.s, .int .i64 c.k, .int .i64 c.a, .int .i64 c.f, .bool c.al, .int .i64 0, .int .i64 0, .int .i64 0, .int .i64 0, .slice none 0 0]).bl
end Go.Proofs.YtmlphohnegmgkaaGreat
