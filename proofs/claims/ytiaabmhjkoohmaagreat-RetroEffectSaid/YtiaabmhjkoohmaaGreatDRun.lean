/-
 Contract of a desk's Run. Conditions as named.
-/
import Derived.Test.YtiaabmhjkoohmaaGreatM9
namespace Go.Proofs.YtiaabmhjkoohmaaGreat
set_option maxRecDepth 100000
set_option maxHeartbeats 25600000
set_option linter.unusedVariables false
set_option linter.unusedSimpArgs false
open Go.RowKit Tryz
open Lib (hid)
theorem in_one (x : InP) : ∀ u ∈ inPC x, u.oneCell' = true := by intro u hu; simp [inPC] at hu; rcases hu with rfl | rfl | rfl | rfl | rfl | rfl <;> rfl
--%
theorem drun_c (fq days : Int) (lo : Nat) (s : DkS) (D : Dk) (w : World) (h : DkAt w lo fq days s D) (hk : DkOK fq days D) (re : Int) (z : Sp) (D' : Dk) (he : Hid (re = runE D.e (nomI fq) (cntI fq days))) (hz : Hid (z = runS D.e (nomI fq))) (h1 : Hid (re = 0 → D' = drunV D (nomI fq))) (h2 : Hid (re ≠ 0 → D' = D)) :
  Calls prog 36 #[.pointer (some ⟨s.d, 0, none⟩)] w fun e w' => SlipE re z w e w' ∧ DkMut D' lo fq days s w w' := by
 have HK := hid hk
 have hb0 := below1 w (.cells #[.int .i64 0, .int .i64 0, .int .i64 0, .int .i64 0, .int .i64 0, .int .i64 0, .slice none 0 0, .int .i64 0, .slice none 0 0, .int .i64 0] 45)
 have h0 := h.below hb0
 have HSL : Hid (SlAt (w.alloc (.cells #[.int .i64 0, .int .i64 0, .int .i64 0, .int .i64 0, .int .i64 0, .int .i64 0, .slice none 0 0, .int .i64 0, .slice none 0 0, .int .i64 0] 45)) s.y w.heap.size) := SlAt.same (h.em.slAt (Nat.le_refl _)) (hb0.cell (p := ⟨s.y, 1, none⟩) h.em.lt.2.1)
 have HYL : Hid (s.y < w.heap.size) := h.em.lt.2.1
 have HB0 := hid hb0
 have HR0 := hid (Blk.mk w 45 #[.int .i64 0, .int .i64 0, .int .i64 0, .int .i64 0, .int .i64 0, .int .i64 0, .slice none 0 0, .int .i64 0, .slice none 0 0, .int .i64 0])
 obtain ⟨c1, c2, c3, hB, _, _, _⟩ := h0.ex
 obtain ⟨E1, hp1, hp2⟩ := pickD re (runV D.e (nomI fq)) D.e
 have KR := hid (rrun_c fq days lo lo s.p s.y s.o D.e _ h0.em hk.e re z E1 he hz hp1 hp2)
 have HP1 := hid hp1
 have HP2 := hid hp2
 have HB := hid hB
 have HD0 := hid h0
 have HN : Hid (D.fs.length = D.e.ins.length ∧ D.e.ins.length ≤ 53) := ⟨hk.fs, hk.e.ins53⟩
 unfold RunR spC at KR
 unfold SlipE spC
 have d0 := HB.out.cv 0 (.pointer (some ⟨s.p, 0, none⟩)) rfl
 clear hB hk hp1 hp2 h0 hb0 h he hz
 go_enter func36, ntmps36
 go_wp2_with fail
 refine KR.out.mono ?_
 rintro e W1 ⟨⟨⟨zp, ⟨zc, zt, zs⟩, ztx, zsh, zrows, znet, ztk, zpy⟩, A7, n7, c7, B7, m7, d7, rfl, hq⟩, ⟨li, o1, hE, ho⟩, hkp, hc0, hc1, hs⟩
 clear d0 KR
 have HRA := hid (HR0.out.fx HD0.out.em.ty hkp (by decide))
 have hs1 := hs _ HR0.out.lt HSL.out
 have HS1 := hid hs1
 clear hs1
 by_cases h0 : re = 0
 case neg =>
  have tr : (re != 0) = true := by simpa using h0
  have hmu := HD0.out.actN hE ho hkp (Or.inl ⟨hc0 h0, by rw [HP2.out h0]⟩) hs
  rw [HP2.out h0] at hmu
  have HMU := hid hmu
  have H0 := hid h0
  clear hmu hE ho hkp hc0 hc1 hs h0 hq HP1 HP2
  have HRB := hid (HRA.out.t (below1 W1 (.cells #[.int .i64 zp, .int .i64 zc, .int .i64 zt, .int .i64 zs, .int .i64 ztx, .int .i64 zsh, .slice A7 n7 c7, .int .i64 znet, .slice B7 m7 d7, .int .i64 zpy] 45)))
  obtain ⟨a0, a1, a2, a3, a4, a5, a6, a7, a8, a9⟩ := (HRB.out).q10
  obtain ⟨bb0, bb1, bb2, bb3, bb4, bb5, bb6, bb7, bb8, bb9⟩ := (HRB.out).r10
  go_wp2_with fail
  refine bodyPost_ret (v := .tuple #[.agg #[.int .i64 0, .int .i64 0, .int .i64 0, .int .i64 0, .int .i64 0, .int .i64 0, .slice none 0 0, .int .i64 0, .slice none 0 0, .int .i64 0], .int .i64 re]) (by simp [results, results36, go_sem, a0, a1, a2, a3, a4, a5, a6, a7, a8, a9]) rfl ⟨⟨sp0, none, 0, 0, none, 0, 0, rfl, SlipV.err H0.out⟩, ?_⟩
  rw [h2.out H0.out]
  exact HMU.out.wrap HB0.out HYL.out (below1 W1 (.cells #[.int .i64 zp, .int .i64 zc, .int .i64 zt, .int .i64 zs, .int .i64 ztx, .int .i64 zsh, .slice A7 n7 c7, .int .i64 znet, .slice B7 m7 d7, .int .i64 zpy] 45)) HRB.out (Nat.le_refl _) HS1.out (put10_gr _ _ (.int .i64 0) (.int .i64 0) (.int .i64 0) (.int .i64 0) (.int .i64 0) (.int .i64 0) (.slice none 0 0) (.int .i64 0) (.slice none 0 0) (.int .i64 0))
 have hmu := HD0.out.actN hE ho hkp (Or.inr (hc1 h0)) hs
 rw [HP1.out h0] at hmu
 have HV := hid (h1.out h0)
 subst h0
 clear hE ho hkp hc0 hc1 hs HP1 HP2 h1 h2
 obtain ⟨s1, e1, a1, r1, m1, k1, y1⟩ := hmu
 have HMU := hid (⟨e1, r1, m1, k1, y1⟩ : _ ∧ _ ∧ _ ∧ _ ∧ _)
 obtain ⟨k1c, k2c, k3c, hB1, _, _, hFs1⟩ := a1.ex
 dsimp only at hB1 hFs1
 rw [e1.1, e1.2.1] at hB1
 obtain ⟨n1, hn1⟩ : ∃ n, n = D.fs.length := ⟨_, rfl⟩
 have HN1 := hid hn1
 rw [← hn1] at hB1 hFs1
 obtain ⟨xs, hxs, happ⟩ := hFs1.app
 have HXS := hid hxs
 have HAPP := hid happ
 have HB1 := hid hB1
 have HA1 := hid a1
 have HNL : Hid (n1 ≤ 53) := by have := HN.out; unfold Hid; omega
 have hlo : lo ≤ W1.heap.size := by have := a1.em.lp; have := a1.em.lt.1; omega
 have HLO := hid hlo
 have HYL1 : Hid (s.y < W1.heap.size) := by have h9 := a1.em.lt.2.1; rw [e1.2.2] at h9; exact h9
 have hb2 := below1 W1 (.cells #[.int .i64 zp, .int .i64 zc, .int .i64 zt, .int .i64 zs, .int .i64 ztx, .int .i64 zsh, .slice A7 n7 c7, .int .i64 znet, .slice B7 m7 d7, .int .i64 zpy] 45)
 have HBG := hid (Blk.mk W1 45 #[.int .i64 zp, .int .i64 zc, .int .i64 zt, .int .i64 zs, .int .i64 ztx, .int .i64 zsh, .slice A7 n7 c7, .int .i64 znet, .slice B7 m7 d7, .int .i64 zpy])
 have HRA2 := hid (HRA.out.t hb2)
 have HB2 := hid (HB1.out.t hb2)
 have HQ := hid (hq.below hb2)
 have KI := hid (rinputs_c fq days lo lo s1.p s1.y s1.o _ _ (a1.below hb2).em (by have := HN.out; show (tryIn D.e).length ≤ 1000; unfold tryIn; rw [List.length_append, List.length_singleton]; omega) (by
  intro q hq
  rcases List.mem_append.1 (show q ∈ D.e.ins ++ [⟨D.e.c, D.e.next⟩] from hq) with hq | hq
  ·
   exact HK.out.e.il q hq
  ·
   rw [List.mem_singleton] at hq; subst hq; exact HK.out.e.nx))
 have hti : (runV D.e (nomI fq)).ins.length = n1 + 1 := by show (tryIn D.e).length = n1 + 1; unfold tryIn; rw [List.length_append, hn1, HN.out.1]; rfl
 have HTI := hid hti
 unfold InsR at KI
 dsimp only at KI
 rw [hti, e1.2.1] at KI
 have d0 := HB2.out.cv 0 (.pointer (some ⟨s.p, 0, none⟩)) rfl
 have HBX := hid hb2
 clear hti hb2 hlo hB1 hFs1 hxs happ a1 e1 r1 m1 k1 y1 hq hn1 HB HRA HB1
 go_wp2_with fail
 refine KI.out.mono ?_
 rintro e W3 ⟨⟨A9, c9, rfl, hin⟩, hb3⟩
 clear d0 KI
 obtain ⟨L9, hL1, hL2, hL3, hL4⟩ := hin.ex
 obtain ⟨g9, rfl, hg9, hc9, _, cs9, hb9⟩ := own_some hL3 (by omega)
 have hlt : n1 < L9.length := by omega
 have hm9 := getD_mem' inp0 hlt
 have hz9 : (L9.getD n1 inp0).z = ⟨D.e.c, D.e.next⟩ := by
  rw [← getD_map' InP.z L9 n1 inp0 hlt, hL1]
  show (tryIn D.e).getD n1 _ = _
  unfold tryIn
  rw [HN1.out, HN.out.1]
  simp [List.getD_eq_getElem?_getD]
 have hq9 := hL4 _ hm9
 rw [hz9] at hq9
 have hx9 : ∀ j u, j < 6 → (inPC (L9.getD n1 inp0))[j]? = some u → W3.cell? ⟨g9, n1 * 6 + j, none⟩ = some u := fun j u hj hu => (hc9 (n1 * 6 + j) (by omega)).trans (flat_key inPC 6 inp0 inPC_len L9 n1 j u hlt hj hu)
 generalize L9.getD n1 inp0 = q9 at *
 obtain ⟨⟨qc, ql⟩, A10, n10, k10⟩ := q9
 dsimp only at hz9 hq9
 injection hz9 with z1 z2
 subst z1
 subst z2
 obtain ⟨x0, x1, x2, x3, x4, x5⟩ : W3.cell? ⟨g9, n1 * 6, none⟩ = some (.int .i64 D.e.c.s) ∧ W3.cell? ⟨g9, n1 * 6 + 1, none⟩ = some (.int .i64 D.e.c.k) ∧ W3.cell? ⟨g9, n1 * 6 + 2, none⟩ = some (.int .i64 D.e.c.a) ∧ W3.cell? ⟨g9, n1 * 6 + 3, none⟩ = some (.int .i64 D.e.c.f) ∧ W3.cell? ⟨g9, n1 * 6 + 4, none⟩ = some (.bool D.e.c.al) ∧ W3.cell? ⟨g9, n1 * 6 + 5, none⟩ = some (.slice A10 n10 k10) := ⟨hx9 0 _ (by decide) rfl, hx9 1 _ (by decide) rfl, hx9 2 _ (by decide) rfl, hx9 3 _ (by decide) rfl, hx9 4 _ (by decide) rfl, hx9 5 _ (by decide) rfl⟩
 have HX9 := hid (⟨x0, x1, x2, x3, x4, x5⟩ : _ ∧ _ ∧ _ ∧ _ ∧ _ ∧ _)
 have HG9 : Hid (Blk W3 g9 67 cs9) := hb9
 have HG9L : Hid (W1.heap.size ≤ g9) := Nat.le_trans HBX.out.size hg9
 have HQ9 := hid hq9
 have HB3 := hid hb3
 have HBD := hid (HB2.out.t hb3)
 have hb13 := bT HBX.out hb3
 have HB13 := hid hb13
 clear hin hL1 hL2 hL3 hL4 hg9 hc9 hb9 hlt hm9 hq9 hx9 hb3 hb13 x0 x1 x2 x3 x4 x5 HB2
 have G : Hid (∀ W, Blk W s.d 55 #[.pointer (some ⟨s.p, 0, none⟩), .slice s1.A2 D.fx.length k2c, .slice s1.A1 n1 k1c] → (∀ j, W.cell? ⟨g9, j, none⟩ = W3.cell? ⟨g9, j, none⟩) → W.cell? ⟨s.d, 2, none⟩ = some (.slice s1.A1 n1 k1c) ∧ W.cell? ⟨g9, n1 * 6, none⟩ = some (.int .i64 D.e.c.s) ∧ W.cell? ⟨g9, n1 * 6 + 1, none⟩ = some (.int .i64 D.e.c.k) ∧ W.cell? ⟨g9, n1 * 6 + 2, none⟩ = some (.int .i64 D.e.c.a) ∧ W.cell? ⟨g9, n1 * 6 + 3, none⟩ = some (.int .i64 D.e.c.f) ∧ W.cell? ⟨g9, n1 * 6 + 4, none⟩ = some (.bool D.e.c.al) ∧ W.cell? ⟨g9, n1 * 6 + 5, none⟩ = some (.slice A10 n10 k10)) := fun W hW hj => ⟨hW.cv 2 _ rfl, (hj _).trans HX9.out.1, (hj _).trans HX9.out.2.1, (hj _).trans HX9.out.2.2.1, (hj _).trans HX9.out.2.2.2.1, (hj _).trans HX9.out.2.2.2.2.1, (hj _).trans HX9.out.2.2.2.2.2⟩
 have HNE : Hid (∀ (W5 W6 : World), Below W3.heap.size W3 W5 → W5.grownBy W6 (blkO s1.A1) → Blk W6 s.d 55 #[.pointer (some ⟨s.p, 0, none⟩), .slice s1.A2 D.fx.length k2c, .slice s1.A1 n1 k1c] ∧ (∀ j, W6.cell? ⟨g9, j, none⟩ = W3.cell? ⟨g9, j, none⟩)) := fun W5 W6 hb hg => ⟨(HBD.out.t hb).grown hg (by
  intro he
  obtain ⟨⟨cs, hb2⟩, _⟩ := own_typ (oB9 HXS.out HB13.out) he.symm
  exact Blk.differ HBD.out hb2 (by decide) rfl), fun j => by
  have h9 := (HG9.out.t hb).grown hg (by
   intro he
   have hl := (HXS.out.lt g9 ((blkO_own _ _ _).trans he.symm)).2
   have := HG9L.out
   omega)
  exact (h9.cell j).trans (HG9.out.cell j).symm⟩
 have e7 : (((n1 + 1 : Nat) : Int) - 1) = (n1 : Int) := by omega
 have e8 : IntKind.i64.wrap (n1 : Int) = (n1 : Int) := IntWalk.i64_in _ (by have := HNL.out; omega)
 have e9 : (0 : Int) ≤ (n1 : Int) := by omega
 have e10 : (n1 : Int) < (n1 : Int) + 1 := by omega
 have e11 : ((n1 : Int)).toNat = n1 := by omega
 go_upto_region 5 with fail
 refine wp_region_E (fun W => W.cell? ⟨s.d, 2, none⟩ = some (.slice s1.A1 n1 k1c) ∧ W.cell? ⟨g9, n1 * 6, none⟩ = some (.int .i64 D.e.c.s) ∧ W.cell? ⟨g9, n1 * 6 + 1, none⟩ = some (.int .i64 D.e.c.k) ∧ W.cell? ⟨g9, n1 * 6 + 2, none⟩ = some (.int .i64 D.e.c.a) ∧ W.cell? ⟨g9, n1 * 6 + 3, none⟩ = some (.int .i64 D.e.c.f) ∧ W.cell? ⟨g9, n1 * 6 + 4, none⟩ = some (.bool D.e.c.al) ∧ W.cell? ⟨g9, n1 * 6 + 5, none⟩ = some (.slice A10 n10 k10)) 15 (by kernel_rfl) (G.out _ (HBD.out.t (b0 W3).drew) (fun _ => rfl)) (fun hH9 => ?_)
 refine tkG 0 (h := ?_)
 refine tkG 1 (h := ?_)
 refine tkG 2 (h := ?_)
 refine tkG 3 (h := ?_)
 refine tkG 4 (h := ?_)
 refine tkG 5 (h := ?_)
 refine tkG 6 (h := ?_)
 refine tkG 7 (h := ?_)
 refine tkG 8 (h := ?_)
 refine tkG 9 (h := ?_)
 refine tkG 10 (h := ?_)
 refine tkO 11 (h := fun K hK => ?_)
 go_simp
 refine shG hK (G.out _ (HBD.out.t (bA (b0 W3).drew _)) (fun j => (bA (b0 W3).drew _).cell (p := ⟨g9, j, none⟩) HG9.out.lt)) (h := fun hH9 => ?_)
 clear hK K
 refine tkO 12 (h := fun K hK => ?_)
 obtain ⟨v6, w6, hr, ho6, hg6, hw6⟩ := run_app1W (P := prog) W3.drew 53 53 67 _ 6 64 underlying53 info_input rfl (by decide) (oB9 (oB9 HXS.out HB13.out) (b0 W3).drew) #[.int .i64 D.e.c.s, .int .i64 D.e.c.k, .int .i64 D.e.c.a, .int .i64 D.e.c.f, .bool D.e.c.al, .slice A10 n10 k10] rfl (in_one ⟨⟨D.e.c, D.e.next⟩, A10, n10, k10⟩) (by have := HNL.out; omega) (by have := HNL.out; omega) (Nat.le_trans HLO.out HB13.out.size)
 rw [blkO_own] at hg6 hw6
 obtain ⟨A6, c6, rfl⟩ := oL9 ho6
 have HR := hid hr
 have HO6 := hid ho6
 have HG6 := hid hg6
 have HW6 := hid hw6
 obtain ⟨hB6, hj6⟩ := HNE.out _ w6 (b0 W3).drew hg6
 clear hr ho6 hg6 hw6
 have q6 := hB6.free 2
 have p6 := hB6.cv 2 (.slice s1.A1 n1 k1c) rfl
 refine step_of_run rfl _ _ _ rfl _ _ rfl rfl _ _ HR.out ?_
 refine shG hK (G.out _ hB6 hj6) (h := fun hH9 => ?_)
 clear hK K
 refine tkG 13 (h := ?_)
 refine tkG 14 (h := ?_)
 refine wL9 (i := 15) (by kernel_rfl) rfl (by decide) (fun K hK => ?_)
 go_simp
 refine hK.out _ _ (wD9 (by kernel_rfl) ?_ _)
 clear hK K
 clear G hH9 HR p6 q6 e7 e8 e9 e10 e11
 simp only [Exit.then]
 have hD3 := (b0 W3).drew
 have hX3 := oB9 (oB9 HXS.out HB13.out) hD3
 have hb15 := bT HB13.out hD3
 have hkeep : ∀ (g : Nat) (cs : Array Value), Blk W3 g 45 cs → Blk (w6.setCell ⟨s.d, 2, none⟩ (.slice A6 (n1 + 1) c6)) g 45 cs := fun g cs hb => by
  have h1 := hb.t hD3
  have h2 := h1.grown HG6.out (by
   intro he
   obtain ⟨⟨cs2, hb2⟩, _⟩ := own_typ hX3 he.symm
   exact Blk.differ h1 hb2 (by decide) rfl)
  exact h2.grown (gJ9 w6 s.d 2 _) (by simpa using Blk.differ h2 hB6 (by decide))
 have HGX := hid (hkeep _ _ (HBG.out.t HB3.out))
 have HRX := hid (hkeep _ _ (HRA2.out.t HB3.out))
 skip
 have hq9 := oK9 (oB9 (oM9 HQ9.out.2 (Nat.le_trans HLO.out HBX.out.size)) hD3) hX3 (by decide) HG6.out
 have ho := HAPP.out _ w6 A6 c6 ⟨⟨D.e.c, D.e.next⟩, A10, n10, k10⟩ hb15 HG6.out HO6.out HQ9.out.1 hq9
 obtain ⟨e1, r1, m1, k1, y1⟩ := HMU.out
 have hB5 := HBD.out.t hD3
 rw [← e1.1, ← e1.2.1] at hB5
 rw [HN1.out] at ho
 have hpf := (HA1.out.below hb15).putFs hB5 HG6.out ho (by have h9 := HW6.out; rw [blkO_own] at h9; exact h9)
 rw [e1.1] at hpf
 dsimp only at hpf
 rw [← HN1.out] at hpf
 have hfin := DkMut.then e1 r1 m1 k1 y1 HYL1.out hb15 hpf
 have hs9 : SlAt (w6.setCell ⟨s.d, 2, none⟩ (.slice A6 (n1 + 1) c6)) s.y w.heap.size := by obtain ⟨_, _, _, _, _, _, y9⟩ := hfin; exact y9 _ HR0.out.lt HSL.out
 have hq7 := ((((HQ.out.more HB0.out.size).below HB3.out).below hD3).keptT hX3 (by decide) (by decide) HG6.out).grown hB6 (by decide) (by decide) (gJ9 w6 s.d 2 (.slice A6 (n1 + 1) c6))
 have HFI := hid hfin
 have HS9 := hid hs9
 have HQ7 := hid hq7
 clear hD3 hX3 hb15 hkeep hq9 ho e1 r1 m1 k1 y1 hB5 hpf hfin hs9 hq7 hB6 hj6
 generalize hwn : w6.setCell ⟨s.d, 2, none⟩ (.slice A6 (n1 + 1) c6) = w7 at *
 clear hwn
 have a0 := HRX.out.cv 0 (.int .i64 0) rfl
 have bb0 := HRX.out.free 0
 have f0 := HGX.out.cv 0 (.int .i64 zp) rfl
 have a1 := HRX.out.cv 1 (.int .i64 0) rfl
 have bb1 := HRX.out.free 1
 have f1 := HGX.out.cv 1 (.int .i64 zc) rfl
 have a2 := HRX.out.cv 2 (.int .i64 0) rfl
 have bb2 := HRX.out.free 2
 have f2 := HGX.out.cv 2 (.int .i64 zt) rfl
 have a3 := HRX.out.cv 3 (.int .i64 0) rfl
 have bb3 := HRX.out.free 3
 have f3 := HGX.out.cv 3 (.int .i64 zs) rfl
 have a4 := HRX.out.cv 4 (.int .i64 0) rfl
 have bb4 := HRX.out.free 4
 have f4 := HGX.out.cv 4 (.int .i64 ztx) rfl
 have a5 := HRX.out.cv 5 (.int .i64 0) rfl
 have bb5 := HRX.out.free 5
 have f5 := HGX.out.cv 5 (.int .i64 zsh) rfl
 have a6 := HRX.out.cv 6 (.slice none 0 0) rfl
 have bb6 := HRX.out.free 6
 have f6 := HGX.out.cv 6 (.slice A7 n7 c7) rfl
 have a7 := HRX.out.cv 7 (.int .i64 0) rfl
 have bb7 := HRX.out.free 7
 have f7 := HGX.out.cv 7 (.int .i64 znet) rfl
 have a8 := HRX.out.cv 8 (.slice none 0 0) rfl
 have bb8 := HRX.out.free 8
 have f8 := HGX.out.cv 8 (.slice B7 m7 d7) rfl
 have a9 := HRX.out.cv 9 (.int .i64 0) rfl
 have bb9 := HRX.out.free 9
 have f9 := HGX.out.cv 9 (.int .i64 zpy) rfl
 go_wp2_with fail
 refine bodyPost_ret (v := .tuple #[.agg #[.int .i64 zp, .int .i64 zc, .int .i64 zt, .int .i64 zs, .int .i64 ztx, .int .i64 zsh, .slice A7 n7 c7, .int .i64 znet, .slice B7 m7 d7, .int .i64 zpy], .int .i64 0]) (by simp [results, results36, go_sem, a0, a1, a2, a3, a4, a5, a6, a7, a8, a9]) rfl ⟨⟨⟨zp, ⟨zc, zt, zs⟩, ztx, zsh, zrows, znet, ztk, zpy⟩, A7, n7, c7, B7, m7, d7, rfl, HQ7.out.grown HRX.out (by decide) (by decide) (put10_gr _ _ (.int .i64 zp) (.int .i64 zc) (.int .i64 zt) (.int .i64 zs) (.int .i64 ztx) (.int .i64 zsh) (.slice A7 n7 c7) (.int .i64 znet) (.slice B7 m7 d7) (.int .i64 zpy))⟩, ?_⟩
 rw [HV.out]
 exact DkMut.wrap HB0.out HYL.out HFI.out (b0 w7) HRX.out (Nat.le_refl _) HS9.out (put10_gr _ _ (.int .i64 zp) (.int .i64 zc) (.int .i64 zt) (.int .i64 zs) (.int .i64 ztx) (.int .i64 zsh) (.slice A7 n7 c7) (.int .i64 znet) (.slice B7 m7 d7) (.int .i64 zpy))
end Go.Proofs.YtiaabmhjkoohmaaGreat
