/-
  Contracts of functions that the claim reaches, and the plain laws behind them. Conditions as named in each.
-/
import Derived.Test.YtiaabmhjkoohmaaGreatDFix
namespace Go.Proofs.YtiaabmhjkoohmaaGreat
set_option maxRecDepth 100000
set_option maxHeartbeats 25600000
set_option linter.unusedVariables false
set_option linter.unusedSimpArgs false
open Go.RowKit Tryz
open Lib (hid)
def FxR (l : List Fx) (w : World) (e : Ending) (w' : World) : Prop := (∃ A c, e = .returned (.slice A l.length c) ∧ FxOwn w' w.heap.size w.heap.size A l.length c l) ∧ Below w.heap.size w w'
theorem dfixes_c (fq days : Int) (lo : Nat) (s : DkS) (D : Dk) (w : World) (h : DkAt w lo fq days s D) (hk : DkOK fq days D) :
  Calls prog 15 #[.pointer (some ⟨s.d, 0, none⟩)] w (FxR D.fx w) := by
 obtain ⟨c1, c2, c3, hB, _, hFx, _⟩ := h.ex
 obtain ⟨L, hL1, hL2, hL3⟩ := hFx.view.ex
 obtain ⟨ys, hys⟩ : ∃ ys, ys = D.fx := ⟨_, rfl⟩
 have hz := fun f hf => (hk.each f hf).2.2
 have hl := hk.fx
 rw [← hys] at hB hL1 hL2 hz hl ⊢
 have d1 : w.cell? ⟨s.d, 1, none⟩ = some (.slice s.A2 ys.length c2) := hB.cv 1 _ rfl
 obtain ⟨n, hn⟩ : ∃ n, n = ys.length := ⟨_, rfl⟩
 rw [← hn] at d1 hL2 hl
 have HR := hid hL2
 have HN2 : Hid (n = L.length) := hL2.1
 have KC : Hid (∀ q ∈ L, ∀ W, Below w.heap.size w W → Calls prog 47 #[.slice q.A q.n q.c] W (CloneV 98 3 q.n (q.z.l.flatMap elC) W)) := fun q hq W hW => by
  have hq2 := hz q.z (by rw [← hL1]; exact List.mem_map_of_mem hq)
  have h3 := hL3 q hq
  exact clone_el q.A q.n q.c q.z.l W (h3.below hW) (by have := h3.1; omega)
 have HQN : Hid (∀ q ∈ L, q.n = q.z.l.length) := fun q hq => (hL3 q hq).1
 have HL1 := hid hL1
 have HNN := hid hn
 have hn9 : n ≤ 9223372036854775807 := by omega
 unfold FxR
 rw [← hn]
 clear h hz hL1 hL2 hL3 hys hn hk hB hFx
 go_enter func15, ntmps15
 go_wp2_with fail
 go_loopw [3, 11] (fun o i wr => ∃ (k : Nat) (A' : Option Addr) (c' : Nat), k ≤ n ∧ i = .int .i64 k ∧ o = .slice A' k c' ∧ Hid (FxOwn wr w.heap.size w.heap.size A' k c' (ys.take k)) ∧ Below w.heap.size w wr) (fun _ i _ => n - (intOf i).toNat)
 case atStart => exact ⟨0, none, 0, Nat.zero_le _, rfl, rfl, hid (FxOwn.nil _ _ _), b0 w⟩
 case round =>
  obtain ⟨k, A', c', hk', rfl, rfl, HO, hbl⟩ := hrel
  by_cases hk : k < n
  case neg =>
   obtain rfl : k = n := by omega
   go_wp2_with fail
   refine bodyPost_ret (v := .slice A' k c') (by simp [results, results15, go_sem]) rfl ⟨⟨A', c', rfl, ?_⟩, hbl⟩
   have h9 := HO.out
   rw [HNN.out, List.take_length] at h9
   rw [HNN.out]
   exact h9
  obtain ⟨b, off, hA, hlt, hat⟩ := (HR.out.below hbl).2.2 (by omega)
  rw [hA]
  have hc := hat k hk
  have hqm := getD_mem' fxp0 (l := L) (k := k) (by rw [← HN2.out]; exact hk)
  have HTK : Hid (ys.take (k + 1) = ys.take k ++ [(L.getD k fxp0).z]) := by
   unfold Hid
   rw [← HL1.out]
   have h1 := take_next (L.map FxP.z) k fxp0.z (by rw [List.length_map, ← HN2.out]; exact hk)
   rw [h1, getD_map' FxP.z L k fxp0 (by rw [← HN2.out]; exact hk)]
  have KC1 := hid (KC.out _ hqm)
  have HM := hid (HQN.out _ hqm)
  clear hat hqm hA
  generalize L.getD k fxp0 = q at *
  obtain ⟨⟨fk, fl, fa⟩, A2, m2, c2'⟩ := q
  obtain ⟨x0, x1, x2⟩ : wr.cell? ⟨b, off + k * 3, none⟩ = some (.int .i64 fk) ∧ wr.cell? ⟨b, off + k * 3 + 1, none⟩ = some (.slice A2 m2 c2') ∧ wr.cell? ⟨b, off + k * 3 + 2, none⟩ = some (.int .i64 fa) := ⟨hc 0 _ rfl, hc 1 _ rfl, hc 2 _ rfl⟩
  dsimp only at KC1 HTK HM
  unfold CloneV at KC1
  obtain ⟨xs, hxs, happ⟩ := HO.out.app
  have HXS := hid hxs
  have HAPP := hid happ
  have hb1 := bA hbl (.cells #[.int .i64 fk, .slice A2 m2 c2', .int .i64 fa] 62)
  have HY := hid (Blk.mk wr 62 #[.int .i64 fk, .slice A2 m2 c2', .int .i64 fa])
  have y1 := HY.out.cv 1 (.slice A2 m2 c2') rfl
  clear hc hxs happ
  go_wp2_with fail
  refine (KC1.out _ hb1).mono ?_
  rintro e w2 ⟨⟨A5, c5', rfl, hoc⟩, hb2⟩
  clear y1 x0 x1 x2
  have HB2 := hid (bT (below1 wr (.cells #[.int .i64 fk, .slice A2 m2 c2', .int .i64 fa] 62)) hb2)
  have HOC := hid hoc
  have HY2 := hid (HY.out.t hb2)
  have HB3 : Hid (Below wr.heap.size wr (w2.setCell ⟨wr.heap.size, 1, none⟩ (.slice A5 m2 c5'))) := bSg HB2.out (Nat.le_refl _) 1 _
  have HX3 : Hid ((w2.setCell ⟨wr.heap.size, 1, none⟩ (.slice A5 m2 c5')).ownsRow w.heap.size 62 3 (.slice A' k c') k xs) := oB9 HXS.out HB3.out
  have HO3 : Hid ((w2.setCell ⟨wr.heap.size, 1, none⟩ (.slice A5 m2 c5')).ownsRow w.heap.size 98 3 (.slice A5 m2 c5') m2 (fl.flatMap elC)) := oS9 (oM9 HOC.out (Nat.le_trans hbl.size (below1 wr _).size)) HY2.out (by decide) 1 _
  have HS3 : Hid (w.heap.size ≤ (w2.setCell ⟨wr.heap.size, 1, none⟩ (.slice A5 m2 c5')).heap.size) := Nat.le_trans hbl.size HB3.out.size
  obtain ⟨y0, y1, y2, z0, z1, z2⟩ := HY2.out.af3
  clear hoc hb1 hb2
  go_wp2_with (at_builtin; refine wa9 _ rfl _ _ 52 rfl 62 _ 3 40 underlying52 info_fix rfl (by decide) rfl HX3.out #[.int .i64 fk, .slice A5 m2 c5', .int .i64 fa] rfl (by first | rfl | simp) rfl (fxp_one ⟨⟨fk, fl, fa⟩, A5, m2, c5'⟩) (by omega) (by omega) HS3.out ?_; intro v' w6 ho' hg)
  obtain ⟨A6, c6, rfl⟩ := oL9 ho'
  replace hg : (w2.setCell ⟨wr.heap.size, 1, none⟩ (.slice A5 m2 c5')).grownBy w6 (blkO A') := blkO_own A' k c' ▸ (show World.grownBy _ w6 (Value.slice A' k c').ownBlock from hg)
  have hq6 := oK9 HO3.out HX3.out (by decide) hg
  have hfin := HAPP.out _ w6 A6 c6 ⟨⟨fk, fl, fa⟩, A5, m2, c5'⟩ HB3.out hg ho' HM.out hq6
  have HFIN := hid hfin
  have hb6 : Below w.heap.size w w6 := bP (bT hbl HB3.out) HX3.out (by rw [blkO_own]; exact hg) (Nat.le_refl _)
  clear hfin hq6 ho' hg y0 y1 y2 z0 z1 z2
  go_roundw
  case rel => exact ⟨k + 1, A6, c6, by omega, by go_num, rfl, (by unfold Hid; rw [HTK.out]; exact HFIN.out), hb6⟩
  case measure => simp [intOf]; omega
theorem dfirst_c (fq days : Int) (lo : Nat) (s : DkS) (D : Dk) (w : World) (h : DkAt w lo fq days s D) (hk : DkOK fq days D) :
  Calls prog 16 #[.pointer (some ⟨s.d, 0, none⟩)] w (InsR D.fs w) := by
 obtain ⟨c1, c2, c3, hB, _, _, hFs⟩ := h.ex
 have d2 : w.cell? ⟨s.d, 2, none⟩ = some (.slice s.A1 D.fs.length c1) := hB.cv 2 _ rfl
 have KK := hid (dcopied_c s.A1 D.fs.length c1 D.fs w hFs.view (by have h4 := hk.fs; have h5 := hk.e.ins53; omega) hk.fl)
 clear h hk hB hFs
 go_enter func16, ntmps16
 go_wp2_with fail
 refine KK.out.mono ?_
 rintro e w1 ⟨⟨A1, c1', rfl, ho⟩, hb⟩
 go_wp2_with fail
 refine bodyPost_ret (v := .slice A1 D.fs.length c1') (by simp [results, results16, go_sem]) rfl ⟨⟨A1, c1', rfl, ho⟩, hb⟩
theorem pd_new {w0 W : World} {fq days : Int} {p y o : Nat} {E : Em} (h : PE w0 fq days W p y o E) :
  Calls prog 33 #[.pointer (some ⟨p, 0, none⟩)] W fun e W' => (∃ s : DkS, e = .returned (.tuple #[.pointer (some ⟨s.d, 0, none⟩), .int .i64 0]) ∧ PD w0 fq days W' s (dnewV E) ∧ W.heap.size ≤ s.d) ∧ Below W.heap.size W W' := by
 have HP := hid h
 have KI := hid (pe_inputs h)
 unfold InsR at KI
 clear h
 go_enter func33, ntmps33
 go_wp2_with fail
 refine KI.out.mono ?_
 rintro e W1 ⟨⟨A, c, rfl, hin⟩, hb⟩
 go_wp2_with fail
 have HIN := hid hin
 clear hin
 refine bodyPost_ret (v := .tuple #[.pointer (some ⟨W1.heap.size, 0, none⟩), .int .i64 0]) (by simp [results, results33, go_sem]) rfl ⟨?_, bA hb _⟩
 obtain ⟨lo, li, h0, hE⟩ := HP.out.em
 obtain ⟨K, hK, hKr⟩ := hE.ex
 have hb1 := below1 W1 (.cells #[.pointer (some ⟨p, 0, none⟩), .slice none 0 0, .slice A E.ins.length c] 55)
 have hlo : lo ≤ W.heap.size := Nat.le_trans hE.lp (Nat.le_of_lt hE.lt.1)
 refine ⟨⟨W1.heap.size, p, y, o, A, none, K.Ai⟩, rfl, ⟨bT HP.out.bl (bA hb _), ⟨lo, h0, ⟨⟨c, 0, K.ci, Blk.mk W1 55 #[.pointer (some ⟨p, 0, none⟩), .slice none 0 0, .slice A E.ins.length c], ?_, FxOwn.nil _ _ _, (HIN.out.more hlo hlo).below hb1⟩, (hE.low.below hb).below hb1, Nat.le_trans hlo hb.size, ?_⟩⟩, DkOK.new HP.out.ok⟩, hb.size⟩
 ·
  exact (((hK.t hb).t hb1).cell 13).trans rfl
 ·
  intro g hg hg3
  obtain ⟨L, _, _, h5, _⟩ := HIN.out.ex
  obtain ⟨L2, _, _, h6, _⟩ := hKr.ins.ex
  have h7 := (own_typ h5 hg).2
  have h8 := (h6.lt g ((blkO_own _ _ _).trans hg3)).2
  omega
theorem retro_nil (W : World) : Calls prog 33 #[.pointer none] W fun e W' => e = .returned (.tuple #[.pointer none, .int .i64 3]) ∧ W = W' := by
 go_enter func33, ntmps33
 go_wp2_with fail
 refine bodyPost_ret (v := .tuple #[.pointer none, .int .i64 3]) (by simp [results, results33, go_sem]) rfl ⟨rfl, rfl⟩
theorem pd_fixes {w0 W : World} {fq days : Int} {s : DkS} {D : Dk} (h : PD w0 fq days W s D) : Calls prog 15 #[.pointer (some ⟨s.d, 0, none⟩)] W (FxR D.fx W) := by
 obtain ⟨lo, h0, hD⟩ := h.ex
 exact dfixes_c fq days lo s D W hD h.ok
theorem pd_first {w0 W : World} {fq days : Int} {s : DkS} {D : Dk} (h : PD w0 fq days W s D) : Calls prog 16 #[.pointer (some ⟨s.d, 0, none⟩)] W (InsR D.fs W) := by
 obtain ⟨lo, h0, hD⟩ := h.ex
 exact dfirst_c fq days lo s D W hD h.ok
theorem pd_clone {w0 W : World} {fq days : Int} {s : DkS} {D : Dk} (h : PD w0 fq days W s D) :
  Calls prog 23 #[.pointer (some ⟨s.d, 0, none⟩)] W fun e W' => (∃ s2 : DkS, e = .returned (.pointer (some ⟨s2.d, 0, none⟩)) ∧ PD W fq days W' s2 D) ∧ Below W.heap.size W W' := by
 have HP := hid h
 obtain ⟨c1, c2, hB⟩ := h.desk
 have d0 := hB.cv 0 (.pointer (some ⟨s.p, 0, none⟩)) rfl
 have KE := hid (pe_clone h.pe)
 clear hB h
 go_enter func23, ntmps23
 go_wp2_with fail
 refine KE.out.mono ?_
 rintro e W1 ⟨⟨q, y2, o2, rfl, hq⟩, hb1⟩
 have HQ := hid hq
 clear d0 KE hq
 have KF := hid (pd_fixes (HP.out.below hb1))
 unfold FxR at KF
 go_wp2_with fail
 refine KF.out.mono ?_
 rintro e W2 ⟨⟨A2, k2, rfl, hf⟩, hb2⟩
 have HF := hid hf
 clear KF hf
 have KS := hid (pd_first ((HP.out.below hb1).below hb2))
 unfold InsR at KS
 go_wp2_with fail
 refine KS.out.mono ?_
 rintro e W3 ⟨⟨A1, k1, rfl, hi⟩, hb3⟩
 have HI := hid hi
 clear KS hi
 go_wp2_with fail
 have hb13 := bT (bT hb1 hb2) hb3
 refine bodyPost_ret (v := .pointer (some ⟨W3.heap.size, 0, none⟩)) (by simp [results, results23, go_sem]) rfl ⟨?_, bA hb13 _⟩
 obtain ⟨lo, li, h0, hE⟩ := HQ.out.em
 obtain ⟨K, hK, hKr⟩ := hE.ex
 have hE2 := ((hE.low.below hb2).below hb3)
 have hb4 := below1 W3 (.cells #[.pointer (some ⟨q, 0, none⟩), .slice A2 D.fx.length k2, .slice A1 D.fs.length k1] 55)
 have hlo1 : W.heap.size ≤ W1.heap.size := hb1.size
 have hlo : lo ≤ W1.heap.size := Nat.le_trans hE.lp (Nat.le_of_lt hE.lt.1)
 refine ⟨⟨W3.heap.size, q, y2, o2, A1, A2, K.Ai⟩, rfl, ⟨bA hb13 _, ⟨lo, h0, ⟨⟨k1, k2, K.ci, Blk.mk W3 55 #[.pointer (some ⟨q, 0, none⟩), .slice A2 D.fx.length k2, .slice A1 D.fs.length k1], ?_, ((HF.out.more hlo hlo).below hb3).below hb4, (HI.out.more (Nat.le_trans hlo hb2.size) (Nat.le_trans hlo hb2.size)).below hb4⟩, hE2.below hb4, Nat.le_trans hlo (Nat.le_trans hb2.size hb3.size), ?_⟩⟩, HP.out.ok⟩⟩
 ·
  exact ((((hK.t hb2).t hb3).t hb4).cell 13).trans rfl
 ·
  intro g hg hg3
  obtain ⟨L, _, _, h5, _⟩ := HI.out.ex
  obtain ⟨L2, _, _, h6, _⟩ := hKr.ins.ex
  have h7 := (own_typ h5 hg).2
  have h8 := (h6.lt g ((blkO_own _ _ _).trans hg3)).2
  have h9 := hb2.size
  omega
end Go.Proofs.YtiaabmhjkoohmaaGreat
