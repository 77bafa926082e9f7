/-
 Contract of a year's Post. Conditions as named.
-/
import Derived.Test.YtiaabmhjkoohmaaGreatM5
import Derived.Deep.DeepCutAuto
namespace Go.Proofs.YtiaabmhjkoohmaaGreat
set_option maxRecDepth 100000
set_option maxHeartbeats 25600000
set_option linter.unusedVariables false
set_option linter.unusedSimpArgs false
open Go.RowKit Tryz
open Lib (hid)
theorem info_slip : (prog.info? 45).map (fun i => (i.zero, i.size, i.bytes)) = some (some (.agg #[.int .i64 0, .int .i64 0, .int .i64 0, .int .i64 0, .int .i64 0, .int .i64 0, .slice none 0 0, .int .i64 0, .slice none 0 0, .int .i64 0]), 10, 112) := by kernel_rfl
theorem sp_one (q : SpP) : ∀ u ∈ spPC q, u.oneCell' = true := by intro u hu; simp [spPC] at hu; rcases hu with rfl | rfl | rfl | rfl | rfl | rfl | rfl | rfl | rfl | rfl <;> rfl
theorem Blk.tot9 {W : World} {g : Nat} {t : TypeId} {a0 a1 a2 a3 a4 a5 a6 a7 a8 a9 a10 : Value} (hk : Blk W g t #[a0, a1, a2, a3, a4, a5, a6, a7, a8, a9, a10]) (v0 v1 v2 v3 v4 v5 v6 v7 v8 : Value) : Blk ((((((((((W).setCell ⟨g, 2, none⟩ v0).setCell ⟨g, 3, none⟩ v1).setCell ⟨g, 4, none⟩ v2).setCell ⟨g, 5, none⟩ v3).setCell ⟨g, 6, none⟩ v4).setCell ⟨g, 7, none⟩ v5).setCell ⟨g, 8, none⟩ v6).setCell ⟨g, 9, none⟩ v7).setCell ⟨g, 10, none⟩ v8) g t #[a0, a1, v0, v1, v2, v3, v4, v5, v6, v7, v8] := by
 have h0 : Blk _ g t #[a0, a1, v0, a3, a4, a5, a6, a7, a8, a9, a10] := hk.setJ 2 v0
 have h1 : Blk _ g t #[a0, a1, v0, v1, a4, a5, a6, a7, a8, a9, a10] := h0.setJ 3 v1
 have h2 : Blk _ g t #[a0, a1, v0, v1, v2, a5, a6, a7, a8, a9, a10] := h1.setJ 4 v2
 have h3 : Blk _ g t #[a0, a1, v0, v1, v2, v3, a6, a7, a8, a9, a10] := h2.setJ 5 v3
 have h4 : Blk _ g t #[a0, a1, v0, v1, v2, v3, v4, a7, a8, a9, a10] := h3.setJ 6 v4
 have h5 : Blk _ g t #[a0, a1, v0, v1, v2, v3, v4, v5, a8, a9, a10] := h4.setJ 7 v5
 have h6 : Blk _ g t #[a0, a1, v0, v1, v2, v3, v4, v5, v6, a9, a10] := h5.setJ 8 v6
 have h7 : Blk _ g t #[a0, a1, v0, v1, v2, v3, v4, v5, v6, v7, a10] := h6.setJ 9 v7
 have h8 : Blk _ g t #[a0, a1, v0, v1, v2, v3, v4, v5, v6, v7, v8] := h7.setJ 10 v8
 exact h8
theorem own_tot9 {W : World} {base size n g : Nat} {e t : TypeId} {cs : Array Value} {v : Value} {xs : List Value} (h : W.ownsRow base e size v n xs) (hk : Blk W g t cs) (hne : e ≠ t) (v0 v1 v2 v3 v4 v5 v6 v7 v8 : Value) : ((((((((((W).setCell ⟨g, 2, none⟩ v0).setCell ⟨g, 3, none⟩ v1).setCell ⟨g, 4, none⟩ v2).setCell ⟨g, 5, none⟩ v3).setCell ⟨g, 6, none⟩ v4).setCell ⟨g, 7, none⟩ v5).setCell ⟨g, 8, none⟩ v6).setCell ⟨g, 9, none⟩ v7).setCell ⟨g, 10, none⟩ v8).ownsRow base e size v n xs := setL_own h hk hne [v0, v1, v2, v3, v4, v5, v6, v7, v8] 2
theorem kp_tot9 {X : Nat → Prop} {w0 W : World} {g : Nat} (h : Kp w0.heap.size X w0 W) (hg : w0.heap.size ≤ g ∨ X g) (v0 v1 v2 v3 v4 v5 v6 v7 v8 : Value) : Kp w0.heap.size X w0 ((((((((((W).setCell ⟨g, 2, none⟩ v0).setCell ⟨g, 3, none⟩ v1).setCell ⟨g, 4, none⟩ v2).setCell ⟨g, 5, none⟩ v3).setCell ⟨g, 6, none⟩ v4).setCell ⟨g, 7, none⟩ v5).setCell ⟨g, 8, none⟩ v6).setCell ⟨g, 9, none⟩ v7).setCell ⟨g, 10, none⟩ v8) := setL_kp h hg [v0, v1, v2, v3, v4, v5, v6, v7, v8] 2
theorem FrK.tot9 {X : Nat → Prop} {w0 W : World} {l : List (Nat × TypeId × Array Value)} (h : FrK X w0 W l) {g : Nat} (hg : g < w0.heap.size) (hX : X g) (v0 v1 v2 v3 v4 v5 v6 v7 v8 : Value) : FrK X w0 ((((((((((W).setCell ⟨g, 2, none⟩ v0).setCell ⟨g, 3, none⟩ v1).setCell ⟨g, 4, none⟩ v2).setCell ⟨g, 5, none⟩ v3).setCell ⟨g, 6, none⟩ v4).setCell ⟨g, 7, none⟩ v5).setCell ⟨g, 8, none⟩ v6).setCell ⟨g, 9, none⟩ v7).setCell ⟨g, 10, none⟩ v8) l := h.mutL hg hX 2 [v0, v1, v2, v3, v4, v5, v6, v7, v8]
theorem otz' {w : World} {base size n c g : Nat} {e : TypeId} {xs : List Value} (h : w.ownsRow base e size (.slice (some ⟨g, 0, none⟩) n c) n xs) : base ≤ g := by
 rcases h.2 with ⟨h1, _⟩ | ⟨g', cap, cur, h1, h2, _⟩
 ·
  cases h1
 ·
  cases h1; exact h2
def PostR (Y : Yr) (z : Sp) (base p : Nat) (A0 : Option Addr) (w : World) (e : Ending) (w' : World) : Prop :=
 e = .returned (.int .i64 (ytryE Y z)) ∧ (∃ A, (∃ c B d, Ya9 w' base p (ypostV Y z) A c B d) ∧ (A = A0 ∨ ∃ g, A = some ⟨g, 0, none⟩ ∧ w.heap.size ≤ g)) ∧ Kp w.heap.size (fun g => g = p) w w'
theorem ypost_c (p base : Nat) (Y : Yr) (A : Option Addr) (c : Nat) (B : Option Addr) (d : Nat) (z : Sp) (A2 B2 : Option Addr) (c2 d2 : Nat) (w : World) (h : Ya9 w base p Y A c B d) (hn : Y.t.rows.length ≤ 64) (hl : Y.sl.length ≤ 1000) (hs : SpOwn w 0 ⟨z, A2, c2, B2, d2⟩) (h1 : z.rows.length ≤ 1000) (h2 : z.tk.length ≤ 1000) (hbase : base ≤ w.heap.size) :
  Calls prog 109 #[.pointer (some ⟨p, 0, none⟩), .agg (spC z A2 z.rows.length c2 B2 z.tk.length d2)] w (PostR Y z base p A w) := by
 have HF0 := hid (Fr.start w)
 obtain ⟨k, hK⟩ : ∃ k, k = Y.sl.length := ⟨_, rfl⟩
 obtain ⟨n, hN⟩ : ∃ k, k = Y.t.rows.length := ⟨_, rfl⟩
 obtain ⟨re, hre⟩ : ∃ E, E = ytryE Y z := ⟨_, rfl⟩
 obtain ⟨V, hV⟩ : ∃ V, V = taddV Y.t z := ⟨_, rfl⟩
 obtain ⟨n2, hn2⟩ : ∃ n, n = z.rows.length := ⟨_, rfl⟩
 obtain ⟨m2, hm2⟩ : ∃ n, n = z.tk.length := ⟨_, rfl⟩
 have SS := fun (W : World) (b : Nat) (h : SpOwn W b ⟨z, A2, c2, B2, d2⟩) => row_sh (ow9 sl9 h.rows rfl (Nat.le_trans h1 (by decide)) (by decide))
 have TT := fun (W : World) (b : Nat) (h : SpOwn W b ⟨z, A2, c2, B2, d2⟩) => ow9 (f := tkC) (K := 6) (d := tk0) tkC_len' h.tk rfl (Nat.le_trans h2 (by decide)) (by decide)
 have KT := hid (fun W (hW : Below w.heap.size w W) => ytry_c p base Y A c B d z A2 B2 n2 c2 m2 d2 W (h.below hW) hn hl (by rw [hn2]; exact SS W 0 (hs.below hW)) (by rw [hm2]; exact TT W 0 (hs.below hW)) re V hre hV)
 have KC := hid (fun W (hW : SpOwn W 0 ⟨z, A2, c2, B2, d2⟩) => ycopied_c z A2 B2 n2 c2 m2 d2 W (by rw [hn2]; exact SS W 0 hW) (by rw [hm2]; exact TT W 0 hW) (by omega) (by omega))
 have HSP := hid hs
 have HP := hid hbase
 have hk := h.blk
 have HSL := hid h.sl
 have HYA := hid h
 have HLT : Hid (p < w.heap.size) := h.blk.lt
 have HKL : Hid (k ≤ 1000) := by unfold Hid; omega
 unfold PostR
 rw [← hre, ← hn2, ← hm2]
 have HPV : Hid (re = 0 → ypostV Y z = ⟨Y.n, Y.sl ++ [z], V⟩) := fun h0 => by unfold ypostV; rw [if_pos (hre ▸ h0), hV]
 have HPN : Hid (re ≠ 0 → ypostV Y z = Y) := fun h0 => by unfold ypostV; rw [if_neg (hre ▸ h0)]
 unfold yrC at hk
 rw [← hN, ← hK] at hk
 have HKK := hid hK
 clear h hn hN hK hl hre hV hs h1 h2 hbase SS TT hn2 hm2
 generalize hPV : ypostV Y z = PV at *
 clear hPV
 obtain ⟨yn, ys, ⟨⟨bc, bt, bs⟩, tx, sh, rows, net, tk, py⟩⟩ := Y
 obtain ⟨sp, ⟨sc, st, ss⟩, stx, ssh, srows, snet, stk, spy⟩ := z
 have HY := hid hk
 clear hk
 unfold TryR toC at KT
 unfold CopyR at KC
 unfold spC at KT KC ⊢
 dsimp only at KT KC HSL HPV HKK ⊢
 have HF1 := al9 ((HF0.out.al 45 #[.int .i64 sp, .int .i64 sc, .int .i64 st, .int .i64 ss, .int .i64 stx, .int .i64 ssh, .slice A2 n2 c2, .int .i64 snet, .slice B2 m2 d2, .int .i64 spy]))
 clear HF0
 go_enter func109, ntmps109
 obtain ⟨c0_0, c0_1, c0_2, c0_3, c0_4, c0_5, c0_6, c0_7, c0_8, c0_9⟩ := (HF1.out.b 0 rfl).q10
 go_wp2_with fail
 refine (KT.out _ HF1.out.bl).mono ?_
 rintro e w2 ⟨⟨⟨⟨vc, vt, vs⟩, vtx, vsh, vrows, vnet, vtk, vpy⟩, A7, n7, c7, rfl, hq⟩, hb⟩
 clear c0_0 c0_1 c0_2 c0_3 c0_4 c0_5 c0_6 c0_7 c0_8 c0_9
 have HF7 := hid (HF1.out.ca hb)
 have HSZ := hid HF1.out.bl.size
 clear hb KT HF1
 go_upto_region 2 with fail
 have HF2 := al9 ((HF7.out.al 82 #[.int .i64 vc, .int .i64 vt, .int .i64 vs, .int .i64 vtx, .int .i64 vsh, .slice A7 n7 c7, .int .i64 vnet, .int .i64 vtk, .int .i64 vpy]))
 clear HF7
 have HF8 := HF2
 have HQ8 : Hid (re = 0 → To.mk (Bs.mk vc vt vs) vtx vsh vrows vnet vtk vpy = V ∧ n7 = V.rows.length ∧ (w2.alloc (.cells #[.int .i64 vc, .int .i64 vt, .int .i64 vs, .int .i64 vtx, .int .i64 vsh, .slice A7 n7 c7, .int .i64 vnet, .int .i64 vtk, .int .i64 vpy] 82)).ownsRow w.heap.size 79 2 (.slice A7 n7 c7) n7 (V.rows.flatMap shC)) := fun h => ⟨(hq h).1, (hq h).2.1, (oM9 (hq h).2.2 HSZ.out).alloc _⟩
 clear hq HSZ HF2 
 generalize hw3 : w2.alloc (.cells #[.int .i64 vc, .int .i64 vt, .int .i64 vs, .int .i64 vtx, .int .i64 vsh, .slice A7 n7 c7, .int .i64 vnet, .int .i64 vtk, .int .i64 vpy] 82) = w3 at *
 clear hw3
 by_cases h0 : re = 0
 case neg =>
  have tr : (re != 0) = true := by simpa using h0
  have HE := hid h0
  clear h0
  go_wp2_with fail
  refine bodyPost_ret (v := .int .i64 re) (by simp [results, results109, go_sem]) rfl ⟨rfl, ?_, ?_⟩
  ·
   rw [HPN.out HE.out]
   exact ⟨A, ⟨c, B, d, HYA.out.below HF8.out.bl⟩, Or.inl rfl⟩
  ·
   exact Kp.below HF8.out.bl (Nat.le_refl _)
 have HPZ := hid (HPV.out h0)
 obtain ⟨hV, hn7, ho⟩ := HQ8.out h0
 have HN7 := hid hn7
 have HO8 := hid ho
 clear HQ8 hn7 ho HPV HPN
 rw [← hV] at HO8 HPZ HN7
 clear hV
 subst h0
 dsimp only at HO8 HPZ HN7
 have HB3 := hid (HY.out.t HF8.out.bl)
 have HSL3 := hid (HSL.out.below HF8.out.bl)
 have HSP3 := hid (HSP.out.below HF8.out.bl)
 have HK3 := hid (HF8.out.k (fun g => g = p))
 clear HF8 HY HSL HSP HYA
 obtain ⟨c1_0, c1_1, c1_2, c1_3, c1_4, c1_5, c1_6, c1_7, c1_8⟩ := (HK3.out.b 1 rfl).q9
 have qz := HB3.out
 have p2 := qz.cv 2 (.int .i64 bc) rfl
 have q2 := qz.free 2
 have p3 := qz.cv 3 (.int .i64 bt) rfl
 have q3 := qz.free 3
 have p4 := qz.cv 4 (.int .i64 bs) rfl
 have q4 := qz.free 4
 have p5 := qz.cv 5 (.int .i64 tx) rfl
 have q5 := qz.free 5
 have p6 := qz.cv 6 (.int .i64 sh) rfl
 have q6 := qz.free 6
 have p7 := qz.cv 7 (.slice B n d) rfl
 have q7 := qz.free 7
 have p8 := qz.cv 8 (.int .i64 net) rfl
 have q8 := qz.free 8
 have p9 := qz.cv 9 (.int .i64 tk) rfl
 have q9 := qz.free 9
 have p10 := qz.cv 10 (.int .i64 py) rfl
 have q10 := qz.free 10
 clear qz
 go_upto_region 5 with fail
 have ty3 := hid (Ty.one HB3.out (by decide))
 have kp3 := hid (kp_tot9 (Kp.refl w3.heap.size (fun g => g = p) w3) (Or.inr rfl) (.int .i64 vc) (.int .i64 vt) (.int .i64 vs) (.int .i64 vtx) (.int .i64 vsh) (.slice A7 n7 c7) (.int .i64 vnet) (.int .i64 vtk) (.int .i64 vpy))
 have HB4 : Hid (Blk ((((((((((w3).setCell ⟨p, 2, none⟩ (.int .i64 vc)).setCell ⟨p, 3, none⟩ (.int .i64 vt)).setCell ⟨p, 4, none⟩ (.int .i64 vs)).setCell ⟨p, 5, none⟩ (.int .i64 vtx)).setCell ⟨p, 6, none⟩ (.int .i64 vsh)).setCell ⟨p, 7, none⟩ (.slice A7 n7 c7)).setCell ⟨p, 8, none⟩ (.int .i64 vnet)).setCell ⟨p, 9, none⟩ (.int .i64 vtk)).setCell ⟨p, 10, none⟩ (.int .i64 vpy)) p 111 #[.int .i64 yn, .slice A k c, .int .i64 vc, .int .i64 vt, .int .i64 vs, .int .i64 vtx, .int .i64 vsh, .slice A7 n7 c7, .int .i64 vnet, .int .i64 vtk, .int .i64 vpy]) := HB3.out.tot9 (.int .i64 vc) (.int .i64 vt) (.int .i64 vs) (.int .i64 vtx) (.int .i64 vsh) (.slice A7 n7 c7) (.int .i64 vnet) (.int .i64 vtk) (.int .i64 vpy)
 have HK4 : Hid (FrK (fun g => g = p) w ((((((((((w3).setCell ⟨p, 2, none⟩ (.int .i64 vc)).setCell ⟨p, 3, none⟩ (.int .i64 vt)).setCell ⟨p, 4, none⟩ (.int .i64 vs)).setCell ⟨p, 5, none⟩ (.int .i64 vtx)).setCell ⟨p, 6, none⟩ (.int .i64 vsh)).setCell ⟨p, 7, none⟩ (.slice A7 n7 c7)).setCell ⟨p, 8, none⟩ (.int .i64 vnet)).setCell ⟨p, 9, none⟩ (.int .i64 vtk)).setCell ⟨p, 10, none⟩ (.int .i64 vpy)) [(w.heap.size, 45, #[.int .i64 sp, .int .i64 sc, .int .i64 st, .int .i64 ss, .int .i64 stx, .int .i64 ssh, .slice A2 n2 c2, .int .i64 snet, .slice B2 m2 d2, .int .i64 spy]), (w2.heap.size, 82, #[.int .i64 vc, .int .i64 vt, .int .i64 vs, .int .i64 vtx, .int .i64 vsh, .slice A7 n7 c7, .int .i64 vnet, .int .i64 vtk, .int .i64 vpy])]) := HK3.out.tot9 HLT.out rfl (.int .i64 vc) (.int .i64 vt) (.int .i64 vs) (.int .i64 vtx) (.int .i64 vsh) (.slice A7 n7 c7) (.int .i64 vnet) (.int .i64 vtk) (.int .i64 vpy)
 have HO4 : Hid (((((((((((w3).setCell ⟨p, 2, none⟩ (.int .i64 vc)).setCell ⟨p, 3, none⟩ (.int .i64 vt)).setCell ⟨p, 4, none⟩ (.int .i64 vs)).setCell ⟨p, 5, none⟩ (.int .i64 vtx)).setCell ⟨p, 6, none⟩ (.int .i64 vsh)).setCell ⟨p, 7, none⟩ (.slice A7 n7 c7)).setCell ⟨p, 8, none⟩ (.int .i64 vnet)).setCell ⟨p, 9, none⟩ (.int .i64 vtk)).setCell ⟨p, 10, none⟩ (.int .i64 vpy)).ownsRow w.heap.size 79 2 (.slice A7 n7 c7) n7 (vrows.flatMap shC)) := own_tot9 HO8.out HB3.out (by decide) (.int .i64 vc) (.int .i64 vt) (.int .i64 vs) (.int .i64 vtx) (.int .i64 vsh) (.slice A7 n7 c7) (.int .i64 vnet) (.int .i64 vtk) (.int .i64 vpy)
 have HSL4 : Hid (Soz ((((((((((w3).setCell ⟨p, 2, none⟩ (.int .i64 vc)).setCell ⟨p, 3, none⟩ (.int .i64 vt)).setCell ⟨p, 4, none⟩ (.int .i64 vs)).setCell ⟨p, 5, none⟩ (.int .i64 vtx)).setCell ⟨p, 6, none⟩ (.int .i64 vsh)).setCell ⟨p, 7, none⟩ (.slice A7 n7 c7)).setCell ⟨p, 8, none⟩ (.int .i64 vnet)).setCell ⟨p, 9, none⟩ (.int .i64 vtk)).setCell ⟨p, 10, none⟩ (.int .i64 vpy)) base A ys.length c ys) := HSL3.out.fx ty3.out kp3.out
 have HSP4 : Hid (SpOwn ((((((((((w3).setCell ⟨p, 2, none⟩ (.int .i64 vc)).setCell ⟨p, 3, none⟩ (.int .i64 vt)).setCell ⟨p, 4, none⟩ (.int .i64 vs)).setCell ⟨p, 5, none⟩ (.int .i64 vtx)).setCell ⟨p, 6, none⟩ (.int .i64 vsh)).setCell ⟨p, 7, none⟩ (.slice A7 n7 c7)).setCell ⟨p, 8, none⟩ (.int .i64 vnet)).setCell ⟨p, 9, none⟩ (.int .i64 vtk)).setCell ⟨p, 10, none⟩ (.int .i64 vpy)) 0 ⟨⟨sp, ⟨sc, st, ss⟩, stx, ssh, srows, snet, stk, spy⟩, A2, c2, B2, d2⟩) := HSP3.out.fx ty3.out kp3.out
 clear ty3 kp3 HB3 HK3 HO8 HSL3 HSP3 c1_0 c1_1 c1_2 c1_3 c1_4 c1_5 c1_6 c1_7 c1_8 p2 q2 p3 q3 p4 q4 p5 q5 p6 q6 p7 q7 p8 q8 p9 q9 p10 q10
 generalize hw4 : (((((((((w3).setCell ⟨p, 2, none⟩ (.int .i64 vc)).setCell ⟨p, 3, none⟩ (.int .i64 vt)).setCell ⟨p, 4, none⟩ (.int .i64 vs)).setCell ⟨p, 5, none⟩ (.int .i64 vtx)).setCell ⟨p, 6, none⟩ (.int .i64 vsh)).setCell ⟨p, 7, none⟩ (.slice A7 n7 c7)).setCell ⟨p, 8, none⟩ (.int .i64 vnet)).setCell ⟨p, 9, none⟩ (.int .i64 vtk)).setCell ⟨p, 10, none⟩ (.int .i64 vpy) = w4 at *
 clear hw4
 obtain ⟨L, hL1, hL2, hL3, hL4⟩ := HSL4.out.ex
 clear HSL4
 rw [← HKK.out] at hL2 hL3
 have HL1 := hid hL1
 have HL2 := hid hL2
 have HL3 := hid hL3
 have HL4 := hid hL4
 clear hL1 hL2 hL3 hL4
 obtain ⟨c0_0, c0_1, c0_2, c0_3, c0_4, c0_5, c0_6, c0_7, c0_8, c0_9⟩ := (HK4.out.b 0 rfl).q10
 have p1 := HB4.out.cv 1 (.slice A k c) rfl
 have q1 := HB4.out.free 1
 have hkc : k ≤ c := own_cap HL3.out
 go_wp2_with fail
 have G : Hid (∀ W, Below w4.heap.size w4 W → Below w4.heap.size w4 W ∧ (W.cell? ⟨w.heap.size, 0, none⟩ = some (.int .i64 sp) ∧ W.cell? ⟨w.heap.size, 1, none⟩ = some (.int .i64 sc) ∧ W.cell? ⟨w.heap.size, 2, none⟩ = some (.int .i64 st) ∧ W.cell? ⟨w.heap.size, 3, none⟩ = some (.int .i64 ss) ∧ W.cell? ⟨w.heap.size, 4, none⟩ = some (.int .i64 stx) ∧ W.cell? ⟨w.heap.size, 5, none⟩ = some (.int .i64 ssh) ∧ W.cell? ⟨w.heap.size, 6, none⟩ = some (.slice A2 n2 c2) ∧ W.cell? ⟨w.heap.size, 7, none⟩ = some (.int .i64 snet) ∧ W.cell? ⟨w.heap.size, 8, none⟩ = some (.slice B2 m2 d2) ∧ W.cell? ⟨w.heap.size, 9, none⟩ = some (.int .i64 spy) ∧ W.cell? ⟨p, 1, none⟩ = some (.slice A k c))) := fun W hW => ⟨hW, ((HK4.out.ca hW).b 0 rfl).cv 0 _ rfl, ((HK4.out.ca hW).b 0 rfl).cv 1 _ rfl, ((HK4.out.ca hW).b 0 rfl).cv 2 _ rfl, ((HK4.out.ca hW).b 0 rfl).cv 3 _ rfl, ((HK4.out.ca hW).b 0 rfl).cv 4 _ rfl, ((HK4.out.ca hW).b 0 rfl).cv 5 _ rfl, ((HK4.out.ca hW).b 0 rfl).cv 6 _ rfl, ((HK4.out.ca hW).b 0 rfl).cv 7 _ rfl, ((HK4.out.ca hW).b 0 rfl).cv 8 _ rfl, ((HK4.out.ca hW).b 0 rfl).cv 9 _ rfl, (HB4.out.t hW).cv 1 _ rfl⟩
 clear c0_0 c0_1 c0_2 c0_3 c0_4 c0_5 c0_6 c0_7 c0_8 c0_9
 clear p1 q1
 refine wRz (fun W => Below w4.heap.size w4 W ∧ (W.cell? ⟨w.heap.size, 0, none⟩ = some (.int .i64 sp) ∧ W.cell? ⟨w.heap.size, 1, none⟩ = some (.int .i64 sc) ∧ W.cell? ⟨w.heap.size, 2, none⟩ = some (.int .i64 st) ∧ W.cell? ⟨w.heap.size, 3, none⟩ = some (.int .i64 ss) ∧ W.cell? ⟨w.heap.size, 4, none⟩ = some (.int .i64 stx) ∧ W.cell? ⟨w.heap.size, 5, none⟩ = some (.int .i64 ssh) ∧ W.cell? ⟨w.heap.size, 6, none⟩ = some (.slice A2 n2 c2) ∧ W.cell? ⟨w.heap.size, 7, none⟩ = some (.int .i64 snet) ∧ W.cell? ⟨w.heap.size, 8, none⟩ = some (.slice B2 m2 d2) ∧ W.cell? ⟨w.heap.size, 9, none⟩ = some (.int .i64 spy) ∧ W.cell? ⟨p, 1, none⟩ = some (.slice A k c))) 22 (by kernel_rfl) (G.out _ (b0 w4).drew) (fun hH9 => ?_)
 refine tkG 0 (h := ?_)
 refine tkG 1 (h := ?_)
 refine tkG 2 (h := ?_)
 refine tkG 3 (h := ?_)
 refine tkG 4 (h := ?_)
 refine tkG 5 (h := ?_)
 refine tkG 6 (h := ?_)
 refine tkG 7 (h := ?_)
 refine tkG 8 (h := ?_)
 refine tkG 9 (h := ?_)
 refine tkG 10 (h := ?_)
 refine tkG 11 (h := ?_)
 refine tkG 12 (h := ?_)
 refine tkG 13 (h := ?_)
 refine tkG 14 (h := ?_)
 refine tkG 15 (h := ?_)
 refine tkG 16 (h := ?_)
 refine tkO 17 (h := fun K hK => ?_)
 go_simp
 go_at_call 44
 refine (KC.out _ (HSP4.out.below (b0 w4).drew)).mono ?_
 rintro e w5 ⟨⟨A5, c5, B5, d5, rfl, hoc⟩, hb5⟩
 have hB5 : Below w4.heap.size w4 w5 := bT (b0 _).drew hb5
 have HOC := hid hoc
 clear hoc
 refine shG hK (G.out _ hB5) (h := fun hH9 => ?_)
 clear hK K
 refine tkO 18 (h := fun K hK => ?_)
 go_simp
 refine shG hK (G.out _ (bA hB5 _)) (h := fun hH9 => ?_)
 clear hK K
 refine tkO 19 (h := fun K hK => ?_)
 obtain ⟨g6, c6, w6, hr, ho6, hb6⟩ := run_app_full (P := prog) w5 34 34 45 _ 10 112 underlying34 info_slip rfl (by decide) A k _ (own_src (oB9 HL3.out hB5)) #[.int .i64 sp, .int .i64 sc, .int .i64 st, .int .i64 ss, .int .i64 stx, .int .i64 ssh, .slice A5 srows.length c5, .int .i64 snet, .slice B5 stk.length d5, .int .i64 spy] rfl (sp_one ⟨⟨sp, ⟨sc, st, ss⟩, stx, ssh, srows, snet, stk, spy⟩, A5, c5, B5, d5⟩) (by have := HKL.out; omega) (by have := HKL.out; omega)
 have HR := hid hr
 have HO6 := hid ho6
 have hB6 : Below w4.heap.size w4 w6 := bT hB5 hb6
 clear hr ho6
 have q6 := (HB4.out.t hB6).free 1
 have p6 := (HB4.out.t hB6).cv 1 (.slice A k c) rfl
 refine step_of_run rfl _ _ _ rfl _ _ rfl rfl _ _ HR.out ?_
 refine shG hK (G.out _ hB6) (h := fun hH9 => ?_)
 clear hK K
 refine tkG 20 (h := ?_)
 refine tkG 21 (h := ?_)
 refine wL9 (i := 22) (by kernel_rfl) rfl (by decide) (fun K hK => ?_)
 go_simp
 refine hK.out _ _ (wD9 (by kernel_rfl) ?_ _)
 clear hK K
 clear G hH9 KC HR p6 q6
 simp only [Exit.then]
 go_wp2_with fail
 have hbk := HB4.out.t hB6
 have ty6 := Ty.one hbk (by decide)
 have kp6 : Kp w6.heap.size (fun g => g = p) w6 (w6.setCell ⟨p, 1, none⟩ (.slice (some ⟨g6, 0, none⟩) (k + 1) c6)) := kSg (X := fun g => g = p) (g := p) (Kp.refl _ _ _) (Or.inr rfl) 1 _
 have hq : SpOwn w6 base ⟨⟨sp, ⟨sc, st, ss⟩, stx, ssh, srows, snet, stk, spy⟩, A5, c5, B5, d5⟩ := (HOC.out.below hb6).more (Nat.le_trans HP.out HK4.out.bl.size)
 have hrow : w6.ownsRow base 45 10 (.slice (some ⟨g6, 0, none⟩) (k + 1) c6) (k + 1) ((L ++ [(⟨⟨sp, ⟨sc, st, ss⟩, stx, ssh, srows, snet, stk, spy⟩, A5, c5, B5, d5⟩ : SpP)]).flatMap spPC) := by
  rw [List.flatMap_append]
  exact oM9 HO6.out (Nat.le_trans (Nat.le_trans HP.out HK4.out.bl.size) hB5.size)
 have hlen : (ys ++ [(⟨sp, ⟨sc, st, ss⟩, stx, ssh, srows, snet, stk, spy⟩ : Sp)]).length = k + 1 := by rw [List.length_append, HKK.out]; rfl
 have HGE : Hid (w.heap.size ≤ g6) := Nat.le_trans (Nat.le_trans HK4.out.bl.size hB5.size) (otz' HO6.out)
 refine bodyPost_ret (v := .int .i64 0) (by simp [results, results109, go_sem]) rfl ⟨rfl, ?_, ?_⟩
 ·
  rw [HPZ.out]
  refine ⟨some ⟨g6, 0, none⟩, ⟨c6, A7, c7, ?_, ?_, ?_⟩, Or.inr ⟨g6, rfl, HGE.out⟩⟩
  ·
   unfold yrC
   dsimp only
   rw [hlen]
   have h := hbk.setJ 1 (.slice (some ⟨g6, 0, none⟩) (k + 1) c6)
   rw [← HN7.out]
   exact h
  ·
   dsimp only
   rw [hlen]
   refine Soz.fx ⟨_, ?_, ?_, hrow, ?_⟩ ty6 kp6
   ·
    rw [List.map_append, HL1.out]; rfl
   ·
    rw [List.length_append, ← HL2.out]; rfl
   ·
    intro q hq1
    rcases List.mem_append.1 hq1 with hq1 | hq1
    ·
     exact (HL4.out q hq1).below hB6
    ·
     rw [List.mem_singleton] at hq1; subst hq1; exact hq
  ·
   dsimp only
   rw [← HN7.out]
   exact own_fx (oM9 (oB9 HO4.out hB6) HP.out) ty6 kp6 (by decide)
 ·
  exact kSg (X := fun g => g = p) (g := p) (kT HK4.out.bl hB6) (Or.inr rfl) 1 _
end Go.Proofs.YtiaabmhjkoohmaaGreat
