/-
 Contract of a desk's Fix. Conditions as named.
-/
import Derived.Test.YtiaabmhjkoohmaaGreatM9
namespace Go.Proofs.YtiaabmhjkoohmaaGreat
set_option maxRecDepth 100000
set_option maxHeartbeats 25600000
set_option linter.unusedVariables false
set_option linter.unusedSimpArgs false
open Go.RowKit Tryz
open Lib (hid)
theorem info_fix : (prog.info? 62).map (fun i => (i.zero, i.size, i.bytes)) = some (some (.agg #[.int .i64 0, .slice none 0 0, .int .i64 0]), 3, 40) := by kernel_rfl
--%
theorem dfix_c (fq days : Int) (lo : Nat) (s : DkS) (D : Dk) (k : Int) (A : Option Addr) (m c : Nat) (l : List El) (w : World) (h : DkAt w lo fq days s D) (hk : DkOK fq days D) (hl : ∀ W, Kp w.heap.size s.mt w W → ElSl W A m l) (hm : m ≤ 1000) (re : Int) (D' : Dk) (he : Hid (re = dfixE D (nomI fq) (cntI fq days) k l)) (h1 : Hid (re = 0 → D' = dfixV D k l)) (h2 : Hid (re ≠ 0 → D' = D)) :
  Calls prog 24 #[.pointer (some ⟨s.d, 0, none⟩), .int .i64 k, .slice A m c] w fun e w' => e = .returned (.int .i64 re) ∧ DkMut D' lo fq days s w w' := by
 have HD := hid h
 have HL := hid hl
 have HK := hid hk
 obtain ⟨c1, c2, c3, hB, h13, hFx, hFs⟩ := h.ex
 obtain ⟨re0, hre0⟩ : ∃ r, r = replE D.e (nomI fq) (cntI fq days) k l := ⟨_, rfl⟩
 obtain ⟨E1, hp1, hp2⟩ := pickD re0 (replV D.e k l) D.e
 have KR := hid (rrepl_c fq days lo lo s.p s.y s.o D.e k A m c l w h.em hk.e (hl w (Kp.refl _ _ _)) hm re0 E1 hre0 hp1 hp2)
 have HP1 := hid hp1
 have HP2 := hid hp2
 have HR0 := hid hre0
 have HB := hid hB
 have HM : Hid (m = l.length) := (hl w (Kp.refl _ _ _)).1
 obtain ⟨nx, hnx⟩ : ∃ n, n = D.fx.length := ⟨_, rfl⟩
 obtain ⟨n1, hn1⟩ : ∃ n, n = D.fs.length := ⟨_, rfl⟩
 have HNX := hid hnx
 have HN1 := hid hn1
 have HNL : Hid (nx ≤ 256 ∧ n1 ≤ 1000) := by have h3 := hk.fx; have h4 := hk.fs; have h5 := hk.e.ins53; unfold Hid; omega
 rw [← hnx, ← hn1] at HB
 unfold RepR at KR
 have d0 := HB.out.cv 0 (.pointer (some ⟨s.p, 0, none⟩)) rfl
 have d1 := HB.out.cv 1 (.slice s.A2 nx c2) rfl
 clear hB h13 hFx hFs hk hl hre0 hp1 hp2 hnx hn1 h
 go_enter func24, ntmps24
 by_cases z : nx = 256
 case pos =>
  subst z
  have q1 : (((256 : Nat) : Int) == 256) = true := rfl
  have HE : Hid (re = 2) := he.out.trans (by unfold dfixE; rw [if_pos HNX.out.symm])
  go_wp2_with fail
  refine bodyPost_ret (v := .int .i64 2) (by simp [results, results24, go_sem]) rfl ⟨by rw [HE.out], ?_⟩
  rw [h2.out (by rw [HE.out]; decide)]
  exact DkMut.refl HD.out
 have q1 : ((nx : Int) == 256) = false := by simp; omega
 have HE : Hid (re = re0) := he.out.trans (by unfold dfixE; rw [if_neg (by rw [← HNX.out]; exact z)]; exact HR0.out.symm)
 go_wp2_with fail
 refine KR.out.mono ?_
 rintro e w1 ⟨rfl, ⟨li, hE⟩, hkp, hc0, hc1⟩
 clear q1 z d0 d1
 by_cases h0 : re0 = 0
 case neg =>
  have tr : (re0 != 0) = true := by simpa using h0
  go_wp2_with fail
  refine bodyPost_ret (v := .int .i64 re0) (by simp [results, results24, go_sem]) rfl ⟨by rw [HE.out], ?_⟩
  rw [h2.out (by rw [HE.out]; exact h0)]
  have e9 := HP2.out h0
  rw [e9] at hE
  exact HD.out.act hE (fx23 hkp) (hc0 h0) rfl (HD.out.em.slk2 hkp)
 have e9 := HP1.out h0
 rw [e9] at hE
 have hmu := HD.out.actN hE (Or.inl rfl) (fx23 hkp) (Or.inr (hc1 h0)) (HD.out.em.slk2 hkp)
 have HV := hid (h1.out (HE.out.trans h0))
 subst h0
 clear hE hkp hc0 hc1 e9 HP1 HP2 HR0 h1 h2 he
 obtain ⟨s1, e1, a1, r1, m1, k1, y1⟩ := hmu
 obtain ⟨k1c, k2c, k3c, hB1, _, hFx1, _⟩ := a1.ex
 dsimp only at hB1 hFx1
 rw [e1.1, ← HNX.out, ← HN1.out] at hB1
 rw [← HNX.out] at hFx1
 obtain ⟨xs, hxs, happ⟩ := hFx1.app
 have HB1 := hid hB1
 have HXS := hid hxs
 have HAPP := hid happ
 have HA1 := hid a1
 have HR1 := hid (⟨e1, r1, m1, k1, y1⟩ : _ ∧ _ ∧ _ ∧ _ ∧ _)
 have HYL : Hid (s.y < w1.heap.size) := by have h9 := a1.em.lt.2.1; rw [e1.2.2] at h9; exact h9
 have hlo : lo ≤ w1.heap.size := by have := a1.em.lp; have := a1.em.lt.1; omega
 have HLO := hid hlo
 have KC := hid (fun W (hW : Below w1.heap.size w1 W) => clone_el A m c l W ((HL.out w1 k1).below hW) (by omega))
 clear hB1 hFx1 hxs happ a1 e1 r1 m1 k1 y1 hlo HL HB
 go_wp2_with fail
 have HNE : Hid (∀ (W5 W6 : World), Below w1.heap.size w1 W5 → W5.grownBy W6 (blkO s1.A2) → Blk W6 s.d 55 #[.pointer (some ⟨s1.p, 0, none⟩), .slice s1.A2 nx k2c, .slice s1.A1 n1 k1c]) := fun W5 W6 hb hg => (HB1.out.t hb).grown hg (by
  intro he
  obtain ⟨⟨cs, hb2⟩, _⟩ := own_typ HXS.out he.symm
  exact Blk.differ HB1.out hb2 (by decide) rfl)
 have G : Hid (∀ W, Blk W s.d 55 #[.pointer (some ⟨s1.p, 0, none⟩), .slice s1.A2 nx k2c, .slice s1.A1 n1 k1c] → W.cell? ⟨s.d, 1, none⟩ = some (.slice s1.A2 nx k2c) ∧ W.cell? ⟨s.d, 2, none⟩ = some (.slice s1.A1 n1 k1c)) := fun W hW => ⟨hW.cv 1 _ rfl, hW.cv 2 _ rfl⟩
 refine wp_region_E (fun W => W.cell? ⟨s.d, 1, none⟩ = some (.slice s1.A2 nx k2c) ∧ W.cell? ⟨s.d, 2, none⟩ = some (.slice s1.A1 n1 k1c)) 18 (by kernel_rfl) (G.out _ (HB1.out.t (b0 w1).drew)) (fun hH9 => ?_)
 refine tkG 0 (h := ?_)
 refine tkG 1 (h := ?_)
 refine tkG 2 (h := ?_)
 refine tkG 3 (h := ?_)
 refine tkG 4 (h := ?_)
 refine tkG 5 (h := ?_)
 refine tkG 6 (h := ?_)
 refine tkG 8 (h := ?_)
 refine tkG 9 (h := ?_)
 refine tkG 10 (h := ?_)
 refine tkG 11 (h := ?_)
 refine tkG 12 (h := ?_)
 refine tkO 7 (h := fun K hK => ?_)
 go_simp
 go_at_call 47
 refine (KC.out _ (b0 w1).drew).mono ?_
 rintro e w5 ⟨⟨A5, c5, rfl, hoc⟩, hb5⟩
 have hB5 : Below w1.heap.size w1 w5 := bT (b0 _).drew hb5
 have HOC := hid hoc
 clear hoc
 refine shG hK (G.out _ (HB1.out.t hB5)) (h := fun hH9 => ?_)
 clear hK K
 refine tkG 13 (h := ?_)
 refine tkO 14 (h := fun K hK => ?_)
 go_simp
 refine shG hK (G.out _ (HB1.out.t (bA hB5 _))) (h := fun hH9 => ?_)
 clear hK K
 refine tkO 15 (h := fun K hK => ?_)
 obtain ⟨v6, w6, hr, ho6, hg6, hw6⟩ := run_app1W (P := prog) w5 52 52 62 _ 3 40 underlying52 info_fix rfl (by decide) (oB9 HXS.out hB5) #[.int .i64 k, .slice A5 m c5, .int .i64 n1] rfl (fxp_one ⟨⟨k, l, n1⟩, A5, m, c5⟩) (by have := HNL.out; omega) (by have := HNL.out; omega) (Nat.le_trans HLO.out hB5.size)
 rw [blkO_own] at hg6 hw6
 obtain ⟨A6, c6, rfl⟩ := oL9 ho6
 have HR := hid hr
 have HO6 := hid ho6
 have HG6 := hid hg6
 have HW6 := hid hw6
 have hB6 := HNE.out w5 w6 hB5 hg6
 clear hr ho6 hg6 hw6
 have q6 := hB6.free 1
 have p6 := hB6.cv 1 (.slice s1.A2 nx k2c) rfl
 refine step_of_run rfl _ _ _ rfl _ _ rfl rfl _ _ HR.out ?_
 refine shG hK (G.out _ hB6) (h := fun hH9 => ?_)
 clear hK K
 refine tkG 16 (h := ?_)
 refine tkG 17 (h := ?_)
 refine wL9 (i := 18) (by kernel_rfl) rfl (by decide) (fun K hK => ?_)
 go_simp
 refine hK.out _ _ (wD9 (by kernel_rfl) ?_ _)
 clear hK K
 clear G hH9 KC HR p6 q6
 simp only [Exit.then]
 go_wp2_with fail
 refine bodyPost_ret (v := .int .i64 0) (by simp [results, results24, go_sem]) rfl ⟨by rw [HE.out], ?_⟩
 rw [HV.out]
 have a5 := HA1.out.below hB5
 have hq : w6.ownsRow lo 98 3 (.slice A5 m c5) m (l.flatMap elC) := oK9 (oM9 HOC.out (Nat.le_trans HLO.out (b0 w1).drew.size)) (oB9 HXS.out hB5) (by decide) HG6.out
 have ho := HAPP.out w5 w6 A6 c6 ⟨⟨k, l, n1⟩, A5, m, c5⟩ hB5 HG6.out HO6.out HM.out hq
 skip
 rw [HNX.out] at ho
 obtain ⟨e1, r1, m1, k1, y1⟩ := HR1.out
 have hB5b := HB1.out.t hB5
 rw [← e1.1] at hB5b
 have hpf := a5.putFx hB5b HG6.out ho (by have h9 := HW6.out; rw [blkO_own] at h9; exact h9)
 rw [e1.1] at hpf
 rw [← HNX.out] at hpf
 have hfin := DkMut.then e1 r1 m1 k1 y1 HYL.out hB5 hpf
 unfold dfixV
 rw [← HN1.out]
 exact hfin
end Go.Proofs.YtiaabmhjkoohmaaGreat
