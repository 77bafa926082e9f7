/-
 Contract of run.New. Conditions as named.
-/
import Derived.Test.YtiaabmhjkoohmaaGreatRSlip
import Derived.Test.YtiaabmhjkoohmaaGreatKeep
namespace Go.Proofs.YtiaabmhjkoohmaaGreat
set_option maxRecDepth 100000
set_option maxHeartbeats 25600000
set_option linter.unusedVariables false
set_option linter.unusedSimpArgs false
open Go.RowKit Tryz
open Lib (hid)
def NewR (re : Int) (E : Em) (fq days : Int) (w : World) (e : Ending) (w' : World) : Prop :=
 ((re = 0 ∧ ∃ p y o, e = .returned (.tuple #[.pointer (some ⟨p, 0, none⟩), .int .i64 0]) ∧ Ea9 w' w.heap.size w.heap.size fq days p y o E) ∨ (re ≠ 0 ∧ e = .returned (.tuple #[.pointer none, .int .i64 re]))) ∧ Below w.heap.size w w'
--%
theorem rnew_c (t : Tb) (As Ac Ak : Option Addr) (ns cs nc cc nk ck : Nat) (lim rnd : Int) (fq days : Int) (gy : Nat) (s kd a f : Int) (al : Bool) (w : World) (hs : ScSl w As ns t.sch) (hc : CtSl w Ac nc t.cts) (hcc : nc ≤ cc) (hkd : KdSl w Ak nk t.kds) (hck : nk ≤ ck) (hl : lim = t.lim) (hr : rnd = t.rnd)
  (hy : YrAt w gy fq days) (hb : keepE t = 0 → (∀ k, k < ns → (t.sch.getD k []).length ≤ 100000) ∧ (∀ k, k < nc → (t.cts.getD k ct0).bands.length ≤ 100000)) (re : Int) (he : Hid (re = newE t ⟨s, kd, a, f, al⟩)) :
  Calls prog 30 #[.agg #[.slice As ns cs, .slice Ac nc cc, .slice Ak nk ck, .int .i64 lim, .int .i64 rnd], .pointer (some ⟨gy, 0, none⟩), .agg #[.int .i64 s, .int .i64 kd, .int .i64 a, .int .i64 f, .bool al]] w (NewR re (newV t ⟨s, kd, a, f, al⟩) fq days w) := by
 have HF0 := hid (Fr.start w)
 have hns : ns = t.sch.length := hs.1
 have hnc : nc = t.cts.length := hc.1
 have hnk : nk = t.kds.length := hkd.1
 obtain ⟨E1, hE1⟩ : ∃ E1, E1 = keepE t := ⟨_, rfl⟩
 obtain ⟨E2, hE2⟩ : ∃ E1, E1 = fitE t.sch ⟨s, kd, a, f, al⟩ := ⟨_, rfl⟩
 have K1 := hid (fun W (hW : Below w.heap.size w W) => kcheck_c t As Ac Ak ns cs nc cc nk ck lim rnd W (hs.below hW) (hc.below hW) hcc (hkd.below hW) hck hl hr E1 hE1)
 have K2 := hid (fun W (hW : Below w.heap.size w W) => tfits_c t.sch As Ac Ak ns cs nc cc nk ck lim rnd s kd a f al W (hs.below hW) E2 hE2)
 have hlc : E1 = 0 → nc ≤ 6 ∧ ns ≤ 8 ∧ nk ≤ 12 := fun h => by
  rw [hE1] at h
  unfold keepE at h
  by_cases h0 : tbE t = 0
  ·
   obtain ⟨_, h1, h2, h3, _⟩ := tb_of h0; omega
  ·
   rw [if_pos h0] at h; exact absurd h h0
 have K3 : Hid (E1 = 0 → ∀ W, Calls prog 66 #[.int .i64 nc] W fun e w' => (∃ p B d, e = .returned (.tuple #[.pointer (some ⟨p, 0, none⟩), .int .i64 0]) ∧ W.heap.size ≤ p ∧ Ya9 w' W.heap.size p (yr0 nc) none 0 B d) ∧ Below W.heap.size W w') := fun h W => ynew_c nc W (by have := hlc h; omega)
 have K4 : Hid (E1 = 0 → ∀ W (hW : Below w.heap.size w W), Calls prog 67 #[.agg #[.slice As ns cs, .slice Ac nc cc, .slice Ak nk ck, .int .i64 lim, .int .i64 rnd]] W (CloneR t.sch t.cts t.kds ns nc nk lim rnd W)) := fun h W hW => tclone_c t.sch t.cts t.kds As Ac Ak ns cs nc cc nk ck lim rnd W (hs.below hW) (hc.below hW) (hkd.below hW) (by have := hlc h; omega) (hb (by rw [← hE1]; exact h))
 have H1 : Hid (re = seqE E1 E2) := he.out.trans (by unfold newE; rw [hE1, hE2])
 have HY := hid hy
 have HN := hid (⟨hns, hnc, hnk⟩ : ns = t.sch.length ∧ nc = t.cts.length ∧ nk = t.kds.length)
 have HLR := hid (⟨hl, hr⟩ : lim = t.lim ∧ rnd = t.rnd)
 unfold CloneR at K4
 unfold NewR
 clear hs hc hcc hkd hck hl hr hy hb he hns hnc hnk hE1 hE2 hlc
 have HF1 := al9 (((HF0.out.al 26 #[.slice As ns cs, .slice Ac nc cc, .slice Ak nk ck, .int .i64 lim, .int .i64 rnd]).al 28 #[.int .i64 s, .int .i64 kd, .int .i64 a, .int .i64 f, .bool al]))
 clear HF0
 go_enter func30, ntmps30
 obtain ⟨c0_0, c0_1, c0_2, c0_3, c0_4⟩ := (HF1.out.b 0 rfl).q5
 go_wp2_with fail
 refine (K1.out _ HF1.out.bl).mono ?_
 rintro e W1 ⟨rfl, hb⟩
 clear c0_0 c0_1 c0_2 c0_3 c0_4
 have HF2 := hid (HF1.out.ca hb)
 clear hb HF1
 have HK3 : Hid (E1 = 0 → _) := K3
 have HK4 : Hid (E1 = 0 → _) := K4
 clear K3 K4
 by_cases h0 : E1 = 0
 case neg =>
  have tr : (E1 != 0) = true := by simpa using h0
  have HE := hid (H1.out.trans (sN9 h0))
  have HN0 : Hid (re ≠ 0) := by unfold Hid; rw [HE.out]; exact h0
  clear h0
  go_wp2_with fail
  refine bodyPost_ret (v := .tuple #[.pointer none, .int .i64 E1]) (by simp [results, results30, go_sem]) rfl ⟨Or.inr ⟨HN0.out, by rw [HE.out]⟩, HF2.out.bl⟩
 have H2 := hid (H1.out.trans (sE9 h0))
 have K3 := hid (HK3.out h0)
 have K4 := hid (HK4.out h0)
 subst h0
 clear HK3 HK4 H1
 obtain ⟨c0_0, c0_1, c0_2, c0_3, c0_4⟩ := (HF2.out.b 0 rfl).q5
 obtain ⟨c1_0, c1_1, c1_2, c1_3, c1_4⟩ := (HF2.out.b 1 rfl).q5
 go_wp2_with fail
 refine (K2.out _ HF2.out.bl).mono ?_
 rintro e W2 ⟨rfl, hb⟩
 clear c0_0 c0_1 c0_2 c0_3 c0_4 c1_0 c1_1 c1_2 c1_3 c1_4
 have HF3 := hid (HF2.out.ca hb)
 clear hb HF2
 by_cases h0 : E2 = 0
 case neg =>
  have tr : (E2 != 0) = true := by simpa using h0
  have HE : Hid (re = E2) := H2.out
  have HN0 : Hid (re ≠ 0) := by unfold Hid; rw [HE.out]; exact h0
  clear h0
  go_wp2_with fail
  refine bodyPost_ret (v := .tuple #[.pointer none, .int .i64 E2]) (by simp [results, results30, go_sem]) rfl ⟨Or.inr ⟨HN0.out, by rw [HE.out]⟩, HF3.out.bl⟩
 have H3 : Hid (re = 0) := H2.out.trans h0
 subst h0
 have c0_1 := (HF3.out.b 0 rfl).cv 1 (.slice Ac nc cc) rfl
 go_wp2_with fail
 refine (K3.out _).mono ?_
 rintro e W3 ⟨⟨y, B, d, rfl, hyp, hya⟩, hb⟩
 clear c0_1
 have HYA := hid (hya.more HF3.out.bl.size)
 have HYP := hid (Nat.le_trans HF3.out.bl.size hyp)
 have HFy := hid (HF3.out.ca hb)
 clear hb hyp hya K3 HF3
 go_wp2_with fail
 have G : Hid (∀ W, Fr w W [(w.heap.size, 26, #[.slice As ns cs, .slice Ac nc cc, .slice Ak nk ck, .int .i64 lim, .int .i64 rnd]), (w.heap.size + 1, 28, #[.int .i64 s, .int .i64 kd, .int .i64 a, .int .i64 f, .bool al])] → Below w.heap.size w W ∧ (W.cell? ⟨w.heap.size, 0, none⟩ = some (.slice As ns cs) ∧ W.cell? ⟨w.heap.size, 1, none⟩ = some (.slice Ac nc cc) ∧ W.cell? ⟨w.heap.size, 2, none⟩ = some (.slice Ak nk ck) ∧ W.cell? ⟨w.heap.size, 3, none⟩ = some (.int .i64 lim) ∧ W.cell? ⟨w.heap.size, 4, none⟩ = some (.int .i64 rnd) ∧ W.cell? ⟨w.heap.size + 1, 0, none⟩ = some (.int .i64 s) ∧ W.cell? ⟨w.heap.size + 1, 1, none⟩ = some (.int .i64 kd) ∧ W.cell? ⟨w.heap.size + 1, 2, none⟩ = some (.int .i64 a) ∧ W.cell? ⟨w.heap.size + 1, 3, none⟩ = some (.int .i64 f) ∧ W.cell? ⟨w.heap.size + 1, 4, none⟩ = some (.bool al))) := fun W hW => ⟨hW.bl, (hW.b 0 rfl).cv 0 _ rfl, (hW.b 0 rfl).cv 1 _ rfl, (hW.b 0 rfl).cv 2 _ rfl, (hW.b 0 rfl).cv 3 _ rfl, (hW.b 0 rfl).cv 4 _ rfl, (hW.b 1 rfl).cv 0 _ rfl, (hW.b 1 rfl).cv 1 _ rfl, (hW.b 1 rfl).cv 2 _ rfl, (hW.b 1 rfl).cv 3 _ rfl, (hW.b 1 rfl).cv 4 _ rfl⟩
 replace HYA := hid (HYA.out.below (b0 _).drew)
 have HF4 := hid (HFy.out.dr)
 refine wG9 G 11 (by kernel_rfl) HF4.out (fun hH9 => ?_)
 refine tkG 0 (h := ?_)
 refine tkG 2 (h := ?_)
 refine tkG 3 (h := ?_)
 refine tkG 4 (h := ?_)
 refine tkG 5 (h := ?_)
 refine wpAnyE_two (i := 1) (j := 6) (by kernel_rfl) rfl rfl (fun Kx hK => ?_) (fun Kx hK => ?_)
 ·
  go_simp
  go_at_call 67
  refine (K4.out _ HF4.out.bl).mono ?_
  rintro e W4 ⟨⟨A5, c5, A6, c6, A7, c7, rfl, hot⟩, hb⟩
  replace HYA := hid (HYA.out.below hb)
  have HF5 := hid (HF4.out.ca hb)
  have HTB := hid (hot.lower HF4.out.bl.size)
  clear hot
  clear hb
  refine shG hK (G.out _ HF5.out) (h := fun hH9 => ?_)
  clear hK Kx
  refine tkO 6 (h := fun Kx hK => ?_)
  go_simp
  have HYA_ := HYA
  replace HYA := hid (HYA.out.below (below1 _ (.cells #[.slice none 0 0] 143)))
  have HTB_ := HTB
  replace HTB := hid (HTB.out.below (below1 _ (.cells #[.slice none 0 0] 143)))
  have HF6 := al8 (HF5.out.al 143 #[.slice none 0 0])
  refine shG hK (G.out _ (HF6.out.cut 2)) (h := fun hH9 => ?_)
  clear hK Kx
  refine tkG 7 (h := ?_)
  refine tkO 8 (h := fun Kx hK => ?_)
  go_simp
  have HTB2 := hid (HTB.out.below (below1 _ (.cells #[.slice A5 ns c5, .slice A6 nc c6, .slice A7 nk c7, .int .i64 lim, .int .i64 rnd, .pointer (some ⟨gy, 0, none⟩), .int .i64 s, .int .i64 kd, .int .i64 a, .int .i64 f, .bool al, .int .i64 0, .slice none 0 0, .slice none 0 0, .pointer (some ⟨y, 0, none⟩), .pointer (some ⟨W4.heap.size, 0, none⟩)] 109)))
  have HYA2 := hid (HYA.out.below (below1 _ (.cells #[.slice A5 ns c5, .slice A6 nc c6, .slice A7 nk c7, .int .i64 lim, .int .i64 rnd, .pointer (some ⟨gy, 0, none⟩), .int .i64 s, .int .i64 kd, .int .i64 a, .int .i64 f, .bool al, .int .i64 0, .slice none 0 0, .slice none 0 0, .pointer (some ⟨y, 0, none⟩), .pointer (some ⟨W4.heap.size, 0, none⟩)] 109)))
  have HFE := al8 (HF6.out.al 109 #[.slice A5 ns c5, .slice A6 nc c6, .slice A7 nk c7, .int .i64 lim, .int .i64 rnd, .pointer (some ⟨gy, 0, none⟩), .int .i64 s, .int .i64 kd, .int .i64 a, .int .i64 f, .bool al, .int .i64 0, .slice none 0 0, .slice none 0 0, .pointer (some ⟨y, 0, none⟩), .pointer (some ⟨W4.heap.size, 0, none⟩)])
  refine shG hK (G.out _ (HFE.out.cut 2)) (h := fun hH9 => ?_)
  clear hK Kx
  refine tkG 9 (h := ?_)
  refine tkG 10 (h := ?_)
  refine wD9 (by kernel_rfl) ?_ _
  clear G hH9
  try simp only [Exit.then]
  go_wp2_with fail
  have hp := HFE.out.ge 3 rfl
  have ho := HFE.out.ge 2 rfl
  refine bodyPost_ret (v := .tuple #[.pointer (some ⟨_, 0, none⟩), .int .i64 0]) (by simp [results, results30, go_sem]) rfl ⟨Or.inl ⟨H3.out, _, y, _, rfl, ⟨⟨⟨A5, c5, A6, c6, A7, c7, gy, none, 0, none, 0⟩, ?_, ?_⟩, hp, HYP.out, ho, Nat.le_refl _⟩⟩, HFE.out.bl⟩
  ·
   have h := HFE.out.b 3 rfl
   unfold emC newV
   dsimp only
   rw [← HN.out.1, ← HN.out.2.1, ← HN.out.2.2, ← HLR.out.1, ← HLR.out.2]
   exact h
  ·
   refine ⟨?_, HY.out.t HFE.out.bl, World.ownsRow_nil _ _ _ _, Iw9.nil _ _ _, ⟨none, 0, B, d, ?_⟩, ⟨.slice none 0 0, HFE.out.b 2 rfl, rfl, World.ownsRow_nil _ _ _ _⟩⟩
   ·
    unfold newV
    dsimp only
    rw [← HN.out.1, ← HN.out.2.1, ← HN.out.2.2]
    exact HTB2.out
   ·
    unfold newV
    dsimp only
    rw [← HN.out.2.1]
    exact HYA2.out
 ·
  go_simp
  have HYA_ := HYA
  replace HYA := hid (HYA.out.below (below1 _ (.cells #[.slice none 0 0] 143)))
  have HF5 := al8 (HF4.out.al 143 #[.slice none 0 0])
  refine shG hK (G.out _ (HF5.out.cut 2)) (h := fun hH9 => ?_)
  clear hK Kx
  refine tkO 1 (h := fun Kx hK => ?_)
  go_simp
  go_at_call 67
  refine (K4.out _ HF5.out.bl).mono ?_
  rintro e W4 ⟨⟨A5, c5, A6, c6, A7, c7, rfl, hot⟩, hb⟩
  replace HYA := hid (HYA.out.below hb)
  have HF6 := hid (HF5.out.ca hb)
  have HTB := hid (hot.lower HF5.out.bl.size)
  clear hot
  clear hb
  refine shG hK (G.out _ (HF6.out.cut 2)) (h := fun hH9 => ?_)
  clear hK Kx
  refine tkG 7 (h := ?_)
  refine tkO 8 (h := fun Kx hK => ?_)
  go_simp
  have HTB2 := hid (HTB.out.below (below1 _ (.cells #[.slice A5 ns c5, .slice A6 nc c6, .slice A7 nk c7, .int .i64 lim, .int .i64 rnd, .pointer (some ⟨gy, 0, none⟩), .int .i64 s, .int .i64 kd, .int .i64 a, .int .i64 f, .bool al, .int .i64 0, .slice none 0 0, .slice none 0 0, .pointer (some ⟨y, 0, none⟩), .pointer (some ⟨W3.heap.size, 0, none⟩)] 109)))
  have HYA2 := hid (HYA.out.below (below1 _ (.cells #[.slice A5 ns c5, .slice A6 nc c6, .slice A7 nk c7, .int .i64 lim, .int .i64 rnd, .pointer (some ⟨gy, 0, none⟩), .int .i64 s, .int .i64 kd, .int .i64 a, .int .i64 f, .bool al, .int .i64 0, .slice none 0 0, .slice none 0 0, .pointer (some ⟨y, 0, none⟩), .pointer (some ⟨W3.heap.size, 0, none⟩)] 109)))
  have HFE := al8 (HF6.out.al 109 #[.slice A5 ns c5, .slice A6 nc c6, .slice A7 nk c7, .int .i64 lim, .int .i64 rnd, .pointer (some ⟨gy, 0, none⟩), .int .i64 s, .int .i64 kd, .int .i64 a, .int .i64 f, .bool al, .int .i64 0, .slice none 0 0, .slice none 0 0, .pointer (some ⟨y, 0, none⟩), .pointer (some ⟨W3.heap.size, 0, none⟩)])
  refine shG hK (G.out _ (HFE.out.cut 2)) (h := fun hH9 => ?_)
  clear hK Kx
  refine tkG 9 (h := ?_)
  refine tkG 10 (h := ?_)
  refine wD9 (by kernel_rfl) ?_ _
  clear G hH9
  try simp only [Exit.then]
  go_wp2_with fail
  have hp := HFE.out.ge 3 rfl
  have ho := HFE.out.ge 2 rfl
  refine bodyPost_ret (v := .tuple #[.pointer (some ⟨_, 0, none⟩), .int .i64 0]) (by simp [results, results30, go_sem]) rfl ⟨Or.inl ⟨H3.out, _, y, _, rfl, ⟨⟨⟨A5, c5, A6, c6, A7, c7, gy, none, 0, none, 0⟩, ?_, ?_⟩, hp, HYP.out, ho, Nat.le_refl _⟩⟩, HFE.out.bl⟩
  ·
   have h := HFE.out.b 3 rfl
   unfold emC newV
   dsimp only
   rw [← HN.out.1, ← HN.out.2.1, ← HN.out.2.2, ← HLR.out.1, ← HLR.out.2]
   exact h
  ·
   refine ⟨?_, HY.out.t HFE.out.bl, World.ownsRow_nil _ _ _ _, Iw9.nil _ _ _, ⟨none, 0, B, d, ?_⟩, ⟨.slice none 0 0, HFE.out.b 2 rfl, rfl, World.ownsRow_nil _ _ _ _⟩⟩
   ·
    unfold newV
    dsimp only
    rw [← HN.out.1, ← HN.out.2.1, ← HN.out.2.2]
    exact HTB2.out
   ·
    unfold newV
    dsimp only
    rw [← HN.out.2.1]
    exact HYA2.out
end Go.Proofs.YtiaabmhjkoohmaaGreat
