/-
 Layer 23: a desk to begin with. Conditions as named.
-/
import Derived.Test.YtiaabmhjkoohmaaGreatFix23
namespace Go.Proofs.YtiaabmhjkoohmaaGreat
set_option maxRecDepth 100000
set_option maxHeartbeats 25600000
set_option linter.unusedVariables false
set_option linter.unusedSimpArgs false
open Go.RowKit Tryz
open Lib (hid)
def BegR (t : Tb) (c : Cd) (w : World) (e : Ending) (w' : World) : Prop :=
 ((∃ gd gp gy, e = .returned (.pointer (some ⟨gd, 0, none⟩)) ∧ PG w 4 365 w' gd gp gy (dnewV (newV t c))) ∨ e = .returned (.pointer none)) ∧ Below w.heap.size w w'
theorem begin23_c (t : Tb) (As Ac Ak : Option Addr) (ns cs nc cc nk ck : Nat) (lim rnd : Int) (c : Cd) (w : World) (hs : ScSl w As ns t.sch) (hc : CtSl w Ac nc t.cts) (hcc : nc ≤ cc) (hkd : KdSl w Ak nk t.kds) (hck : nk ≤ ck) (hl : lim = t.lim) (hr : rnd = t.rnd) (hn : ns ≤ 9223372036854775807 ∧ nc ≤ 9223372036854775807 ∧ nk ≤ 9223372036854775807) :
  Calls prog 8 #[.agg #[.slice As ns cs, .slice Ac nc cc, .slice Ak nk ck, .int .i64 lim, .int .i64 rnd], .agg #[.int .i64 c.s, .int .i64 c.k, .int .i64 c.a, .int .i64 c.f, .bool c.al]] w (BegR t c w) := by
 have HF0 := hid (Fr.start w)
 obtain ⟨EN, hEN⟩ : ∃ E1, E1 = newE t c := ⟨_, rfl⟩
 have hl1 := hs.1
 have hl2 := hc.1
 have hl3 := hkd.1
 have KN := hid (fun (hsz : ns ≤ 20 ∧ nc ≤ 20 ∧ nk ≤ 30) (W : World) (gy : Nat) (hW : Below w.heap.size w W) (hy : YrAt W gy 4 365) => pe_new (w0 := w) hW t As Ac Ak ns cs nc cc nk ck lim rnd 4 365 (by decide) (by decide) gy c (hs.below hW) (hc.below hW) hcc (hkd.below hW) hck hl hr hsz hy EN hEN)
 have HLN := hid (⟨hl1, hl2, hl3⟩ : ns = t.sch.length ∧ nc = t.cts.length ∧ nk = t.kds.length)
 unfold BegR
 clear hs hc hcc hkd hck hl hr hEN hl1 hl2 hl3
 have HF1 := al9 (((HF0.out.al 26 #[.slice As ns cs, .slice Ac nc cc, .slice Ak nk ck, .int .i64 lim, .int .i64 rnd]).al 28 #[.int .i64 c.s, .int .i64 c.k, .int .i64 c.a, .int .i64 c.f, .bool c.al]))
 clear HF0
 go_enter func8, ntmps8
 by_cases zns : 20 < ns
 case pos =>
  have qns : decide (20 < (ns : Int)) = true := decide_eq_true (by omega)
  have rns : decide ((ns : Int) > 20) = true := decide_eq_true (by omega)
  obtain ⟨c0_0, c0_1, c0_2, c0_3, c0_4⟩ := (HF1.out.b 0 rfl).q5
  go_wp2_with fail
  refine bodyPost_ret (v := .pointer none) (by simp [results, results8, go_sem]) rfl ⟨Or.inr rfl, HF1.out.bl⟩
 have qns : decide (20 < (ns : Int)) = false := decide_eq_false (by omega)
 have rns : decide ((ns : Int) > 20) = false := decide_eq_false (by omega)
 by_cases znc : 20 < nc
 case pos =>
  have qnc : decide (20 < (nc : Int)) = true := decide_eq_true (by omega)
  have rnc : decide ((nc : Int) > 20) = true := decide_eq_true (by omega)
  obtain ⟨c0_0, c0_1, c0_2, c0_3, c0_4⟩ := (HF1.out.b 0 rfl).q5
  go_wp2_with fail
  refine bodyPost_ret (v := .pointer none) (by simp [results, results8, go_sem]) rfl ⟨Or.inr rfl, HF1.out.bl⟩
 have qnc : decide (20 < (nc : Int)) = false := decide_eq_false (by omega)
 have rnc : decide ((nc : Int) > 20) = false := decide_eq_false (by omega)
 by_cases znk : 30 < nk
 case pos =>
  have qnk : decide (30 < (nk : Int)) = true := decide_eq_true (by omega)
  have rnk : decide ((nk : Int) > 30) = true := decide_eq_true (by omega)
  obtain ⟨c0_0, c0_1, c0_2, c0_3, c0_4⟩ := (HF1.out.b 0 rfl).q5
  go_wp2_with fail
  refine bodyPost_ret (v := .pointer none) (by simp [results, results8, go_sem]) rfl ⟨Or.inr rfl, HF1.out.bl⟩
 have qnk : decide (30 < (nk : Int)) = false := decide_eq_false (by omega)
 have rnk : decide ((nk : Int) > 30) = false := decide_eq_false (by omega)
 have HSZ : Hid (ns ≤ 20 ∧ nc ≤ 20 ∧ nk ≤ 30) := by unfold Hid; omega
 clear hn zns znc znk
 obtain ⟨c0_0, c0_1, c0_2, c0_3, c0_4⟩ := (HF1.out.b 0 rfl).q5
 go_upto_region 3 with fail
 clear c0_0 c0_1 c0_2 c0_3 c0_4
 clear qns rns qnc rnc qnk rnk
 by_cases h0 : EN = 0
 case neg =>
  have HNZ : Hid (EN ≠ 0) := h0
  clear h0
  have KNx : Hid (∀ (W : World) (gy : Nat) (hW : Below w.heap.size w W) (hy : YrAt W gy 4 365), Calls prog 30 #[.agg #[.slice As ns cs, .slice Ac nc cc, .slice Ak nk ck, .int .i64 lim, .int .i64 rnd], .pointer (some ⟨gy, 0, none⟩), .agg #[.int .i64 c.s, .int .i64 c.k, .int .i64 c.a, .int .i64 c.f, .bool c.al]] W fun e w' => e = .returned (.tuple #[.pointer none, .int .i64 EN]) ∧ Below W.heap.size W w') := fun W gy hW hy => (KN.out HSZ.out W gy hW hy).mono fun e w' h => ⟨h.2.1 HNZ.out, h.2.2⟩
  clear KN
  go_wp2_with fail
  have G : Hid (∀ W, Fr w W [(w.heap.size, 26, #[.slice As ns cs, .slice Ac nc cc, .slice Ak nk ck, .int .i64 lim, .int .i64 rnd]), (w.heap.size + 1, 28, #[.int .i64 c.s, .int .i64 c.k, .int .i64 c.a, .int .i64 c.f, .bool c.al])] → Below w.heap.size w W ∧ (W.cell? ⟨w.heap.size, 0, none⟩ = some (.slice As ns cs) ∧ W.cell? ⟨w.heap.size, 1, none⟩ = some (.slice Ac nc cc) ∧ W.cell? ⟨w.heap.size, 2, none⟩ = some (.slice Ak nk ck) ∧ W.cell? ⟨w.heap.size, 3, none⟩ = some (.int .i64 lim) ∧ W.cell? ⟨w.heap.size, 4, none⟩ = some (.int .i64 rnd) ∧ W.cell? ⟨w.heap.size + 1, 0, none⟩ = some (.int .i64 c.s) ∧ W.cell? ⟨w.heap.size + 1, 1, none⟩ = some (.int .i64 c.k) ∧ W.cell? ⟨w.heap.size + 1, 2, none⟩ = some (.int .i64 c.a) ∧ W.cell? ⟨w.heap.size + 1, 3, none⟩ = some (.int .i64 c.f) ∧ W.cell? ⟨w.heap.size + 1, 4, none⟩ = some (.bool c.al))) := fun W hW => ⟨hW.bl, (hW.b 0 rfl).cv 0 _ rfl, (hW.b 0 rfl).cv 1 _ rfl, (hW.b 0 rfl).cv 2 _ rfl, (hW.b 0 rfl).cv 3 _ rfl, (hW.b 0 rfl).cv 4 _ rfl, (hW.b 1 rfl).cv 0 _ rfl, (hW.b 1 rfl).cv 1 _ rfl, (hW.b 1 rfl).cv 2 _ rfl, (hW.b 1 rfl).cv 3 _ rfl, (hW.b 1 rfl).cv 4 _ rfl⟩
  have HF2 := hid (HF1.out.dr)
  refine wG9 G 9 (by kernel_rfl) HF2.out (fun hH9 => ?_)
  refine tkG 0 (h := ?_)
  refine tkG 2 (h := ?_)
  refine tkO 1 (h := fun Kx hK => ?_)
  go_simp
  go_at_call 32
  refine (months23_c _).mono ?_
  rintro e W2 ⟨⟨gy, rfl, hy⟩, hb⟩
  have HF3 := hid (HF2.out.ca hb)
  have HYR := hid hy
  clear hy
  clear hb
  refine shG hK (G.out _ HF3.out) (h := fun hH9 => ?_)
  clear hK Kx
  refine tkO 3 (h := fun Kx hK => ?_)
  go_simp
  go_at_call 30
  refine (KNx.out _ gy HF3.out.bl (HYR.out.t (b0 _))).mono ?_
  rintro e W3 ⟨rfl, hb⟩
  have HF4 := hid (HF3.out.ca hb)
  clear HYR
  clear hb
  refine shG hK (G.out _ HF4.out) (h := fun hH9 => ?_)
  clear hK Kx
  refine tkG 4 (h := ?_)
  refine tkG 5 (h := ?_)
  refine tkG 6 (h := ?_)
  refine tkG 7 (h := ?_)
  refine tkG 8 (h := ?_)
  refine wD9 (by kernel_rfl) ?_ _
  clear G hH9
  try simp only [Exit.then]
  go_wp2_with fail
  refine (retro_nil _).mono ?_
  rintro e W9 ⟨rfl, rfl⟩
  go_wp2_with fail
  refine bodyPost_ret (v := .pointer none) (by simp [results, results8, go_sem]) rfl ⟨Or.inr rfl, HF4.out.bl⟩
 subst h0
 have KNx : Hid (∀ (W : World) (gy : Nat) (hW : Below w.heap.size w W) (hy : YrAt W gy 4 365), Calls prog 30 #[.agg #[.slice As ns cs, .slice Ac nc cc, .slice Ak nk ck, .int .i64 lim, .int .i64 rnd], .pointer (some ⟨gy, 0, none⟩), .agg #[.int .i64 c.s, .int .i64 c.k, .int .i64 c.a, .int .i64 c.f, .bool c.al]] W fun e w' => (∃ p y o, e = .returned (.tuple #[.pointer (some ⟨p, 0, none⟩), .int .i64 0]) ∧ PE w 4 365 w' p y o (newV t c)) ∧ Below W.heap.size W w') := fun W gy hW hy => (KN.out HSZ.out W gy hW hy).mono fun e w' h => ⟨by obtain ⟨p, y, o, h1, h2, _⟩ := h.1 rfl; exact ⟨p, y, o, h1, h2⟩, h.2.2⟩
 clear KN
 go_wp2_with fail
 have G : Hid (∀ W, Fr w W [(w.heap.size, 26, #[.slice As ns cs, .slice Ac nc cc, .slice Ak nk ck, .int .i64 lim, .int .i64 rnd]), (w.heap.size + 1, 28, #[.int .i64 c.s, .int .i64 c.k, .int .i64 c.a, .int .i64 c.f, .bool c.al])] → Below w.heap.size w W ∧ (W.cell? ⟨w.heap.size, 0, none⟩ = some (.slice As ns cs) ∧ W.cell? ⟨w.heap.size, 1, none⟩ = some (.slice Ac nc cc) ∧ W.cell? ⟨w.heap.size, 2, none⟩ = some (.slice Ak nk ck) ∧ W.cell? ⟨w.heap.size, 3, none⟩ = some (.int .i64 lim) ∧ W.cell? ⟨w.heap.size, 4, none⟩ = some (.int .i64 rnd) ∧ W.cell? ⟨w.heap.size + 1, 0, none⟩ = some (.int .i64 c.s) ∧ W.cell? ⟨w.heap.size + 1, 1, none⟩ = some (.int .i64 c.k) ∧ W.cell? ⟨w.heap.size + 1, 2, none⟩ = some (.int .i64 c.a) ∧ W.cell? ⟨w.heap.size + 1, 3, none⟩ = some (.int .i64 c.f) ∧ W.cell? ⟨w.heap.size + 1, 4, none⟩ = some (.bool c.al))) := fun W hW => ⟨hW.bl, (hW.b 0 rfl).cv 0 _ rfl, (hW.b 0 rfl).cv 1 _ rfl, (hW.b 0 rfl).cv 2 _ rfl, (hW.b 0 rfl).cv 3 _ rfl, (hW.b 0 rfl).cv 4 _ rfl, (hW.b 1 rfl).cv 0 _ rfl, (hW.b 1 rfl).cv 1 _ rfl, (hW.b 1 rfl).cv 2 _ rfl, (hW.b 1 rfl).cv 3 _ rfl, (hW.b 1 rfl).cv 4 _ rfl⟩
 have HF2 := hid (HF1.out.dr)
 refine wG9 G 9 (by kernel_rfl) HF2.out (fun hH9 => ?_)
 refine tkG 0 (h := ?_)
 refine tkG 2 (h := ?_)
 refine tkO 1 (h := fun Kx hK => ?_)
 go_simp
 go_at_call 32
 refine (months23_c _).mono ?_
 rintro e W2 ⟨⟨gy, rfl, hy⟩, hb⟩
 have HF3 := hid (HF2.out.ca hb)
 have HYR := hid hy
 clear hy
 clear hb
 refine shG hK (G.out _ HF3.out) (h := fun hH9 => ?_)
 clear hK Kx
 refine tkO 3 (h := fun Kx hK => ?_)
 go_simp
 go_at_call 30
 refine (KNx.out _ gy HF3.out.bl (HYR.out.t (b0 _))).mono ?_
 rintro e W3 ⟨⟨p, y, o, rfl, hp⟩, hb⟩
 have HF4 := hid (HF3.out.ca hb)
 have HPE := hid hp
 clear hp HYR
 clear hb
 refine shG hK (G.out _ HF4.out) (h := fun hH9 => ?_)
 clear hK Kx
 refine tkG 4 (h := ?_)
 refine tkG 5 (h := ?_)
 refine tkG 6 (h := ?_)
 refine tkG 7 (h := ?_)
 refine tkG 8 (h := ?_)
 refine wD9 (by kernel_rfl) ?_ _
 clear G hH9
 try simp only [Exit.then]
 go_wp2_with fail
 refine (pg_new HPE.out).mono ?_
 rintro e W9 ⟨⟨gd, gp, gq, rfl, hg⟩, hb⟩
 have HG := hid hg
 clear hg
 go_wp2_with fail
 exact bodyPost_ret (v := .pointer (some ⟨gd, 0, none⟩)) (by simp [results, results8, go_sem]) rfl ⟨Or.inl ⟨gd, gp, gq, rfl, HG.out⟩, HG.out.bl⟩
end Go.Proofs.YtiaabmhjkoohmaaGreat
