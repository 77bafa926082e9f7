/-
  Contracts of functions that the claim reaches, and the plain laws behind them. Conditions as named in each.
-/
import Derived.Test.YtiaabmhjkoohmaaGreatYrP
import Derived.IntWalk
namespace Go.Proofs.YtiaabmhjkoohmaaGreat
set_option maxRecDepth 100000
set_option maxHeartbeats 25600000
set_option linter.unusedVariables false
set_option linter.unusedSimpArgs false
open Go.RowKit Tryz
open Lib (hid)
def SlipsR (l : List Sp) (w : World) (e : Ending) (w' : World) : Prop := (∃ A c, e = .returned (.slice A l.length c) ∧ Soz w' w.heap.size A l.length c l) ∧ Below w.heap.size w w'
theorem SpOwn.grown {w w' : World} {base : Nat} {q : SpP} (h : SpOwn w base q) {base' size' n' : Nat} {v' : Value} {xs' : List Value} (ho : w.ownsRow base' 45 size' v' n' xs') (hg : w.grownBy w' v'.ownBlock) : SpOwn w' base q :=
 ⟨h.rows.kept hg (ooz h.rows ho (by decide)), h.tk.kept hg (ooz h.tk ho (by decide))⟩
theorem gez' {α : Type} {l : List α} {k : Nat} (d : α) (h : k < l.length) : l.getD k d ∈ l := by
 rw [List.getD_eq_getElem?_getD, List.getElem?_eq_getElem h]; exact List.getElem_mem h
theorem gmz' {α β : Type} (f : α → β) (l : List α) (k : Nat) (d : α) (h : k < l.length) : (l.map f).getD k (f d) = f (l.getD k d) := by
 rw [List.getD_eq_getElem?_getD, List.getD_eq_getElem?_getD, List.getElem?_map, List.getElem?_eq_getElem h]; rfl
theorem take_next {α : Type} (l : List α) (k : Nat) (d : α) (h : k < l.length) : l.take (k + 1) = l.take k ++ [l.getD k d] := by
 rw [List.take_add_one, List.getD_eq_getElem?_getD, List.getElem?_eq_getElem h]; rfl
theorem yslips_c (p base : Nat) (Y : Yr) (A : Option Addr) (c : Nat) (B : Option Addr) (d : Nat) (w : World) (h : Ya9 w base p Y A c B d) (hl : Y.sl.length ≤ 1000) (hz : ∀ z ∈ Y.sl, z.rows.length ≤ 1000 ∧ z.tk.length ≤ 1000) :
  Calls prog 12 #[.pointer (some ⟨p, 0, none⟩)] w (SlipsR Y.sl w) := by
 have hk := h.blk
 obtain ⟨L, hL1, hL2, hL3, hL4⟩ := h.sl.ex
 obtain ⟨ys, hys⟩ : ∃ ys, ys = Y.sl := ⟨_, rfl⟩
 rw [← hys] at hL1 hL2 hL3 hl hz ⊢
 have d1 : w.cell? ⟨p, 1, none⟩ = some (.slice A ys.length c) := by rw [hys]; exact hk.cv 1 _ rfl
 obtain ⟨n, hn⟩ : ∃ n, n = ys.length := ⟨_, rfl⟩
 rw [← hn] at d1 hL2 hL3 hl
 have HR : Hid (Rlz spPC 10 spp0 w A n L) := ow9 spPC_len hL3 hL2 (by omega) (by decide)
 have KC : Hid (∀ q ∈ L, ∀ W, Below w.heap.size w W → Calls prog 44 #[.agg (spC q.z q.A q.z.rows.length q.c q.B q.z.tk.length q.d)] W (CopyR q.z W)) := fun q hq W hW => by
  have hq2 := hz q.z (by rw [← hL1]; exact List.mem_map_of_mem hq)
  have ho := (hL4 q hq).below hW
  exact ycopied_c q.z q.A q.B _ q.c _ q.d W (row_sh (ow9 sl9 ho.rows rfl (by omega) (by decide))) (ow9 (f := tkC) (K := 6) (d := tk0) tkC_len' ho.tk rfl (by omega) (by decide)) (by omega) (by omega)
 have HN2 := hid hL2
 have HL1 := hid hL1
 have HNN := hid hn
 have hn9 : n ≤ 9223372036854775807 := by omega
 unfold SlipsR
 rw [← hn]
 clear h hz hL1 hL2 hL3 hL4 hys hk hn
 go_enter func12, ntmps12
 go_wp2_with fail
 go_loopw [3, 11] (fun o i wr => ∃ (k : Nat) (A' : Option Addr) (c' : Nat) (L' : List SpP), k ≤ n ∧ i = .int .i64 k ∧ o = .slice A' k c' ∧ Hid (wr.ownsRow w.heap.size 45 10 (.slice A' k c') k (L'.flatMap spPC)) ∧ Hid (L'.length = k) ∧ Hid (L'.map SpP.z = ys.take k) ∧ Hid (∀ q ∈ L', SpOwn wr w.heap.size q) ∧ Below w.heap.size w wr) (fun _ i _ => n - (intOf i).toNat)
 case atStart =>
  refine ⟨0, none, 0, [], Nat.zero_le _, rfl, rfl, hid (World.ownsRow_nil _ _ _ _), hid rfl, hid rfl, hid ?_, b0 w⟩
  intro q hq
  cases hq
 case round =>
  obtain ⟨k, A', c', L', hk', rfl, rfl, HO, HLN, HM, HQ, hbl⟩ := hrel
  by_cases hk : k < n
  case neg =>
   obtain rfl : k = n := by omega
   go_wp2_with fail
   refine bodyPost_ret (v := .slice A' k c') (by simp [results, results12, go_sem]) rfl ⟨⟨A', c', rfl, L', ?_, HLN.out.symm, HO.out, HQ.out⟩, hbl⟩
   rw [HM.out, HNN.out, List.take_length]
  obtain ⟨b, off, rfl, hlt, hat⟩ := (HR.out.below hbl).2.2 (by omega)
  have hc := hat k hk
  have hqm := gez' spp0 (l := L) (k := k) (by rw [← HN2.out]; exact hk)
  have HTK : Hid (ys.take (k + 1) = ys.take k ++ [(L.getD k spp0).z]) := by
   unfold Hid
   rw [← HL1.out]
   have h1 := take_next (L.map SpP.z) k spp0.z (by rw [List.length_map, ← HN2.out]; exact hk)
   rw [h1, gmz' SpP.z L k spp0 (by rw [← HN2.out]; exact hk)]
  have KC1 := hid (KC.out _ hqm)
  clear hat hqm
  generalize L.getD k spp0 = q at *
  obtain ⟨⟨sp, ⟨sc, st, ss⟩, stx, ssh, srows, snet, stk, spy⟩, A2, c2, B2, d2⟩ := q
  obtain ⟨c0, c1, c3, c4, c5, c6, c7, c8, c9, c10⟩ : wr.cell? ⟨b, off + k * 10, none⟩ = some (.int .i64 sp) ∧ wr.cell? ⟨b, off + k * 10 + 1, none⟩ = some (.int .i64 sc) ∧ wr.cell? ⟨b, off + k * 10 + 2, none⟩ = some (.int .i64 st) ∧ wr.cell? ⟨b, off + k * 10 + 3, none⟩ = some (.int .i64 ss) ∧ wr.cell? ⟨b, off + k * 10 + 4, none⟩ = some (.int .i64 stx) ∧ wr.cell? ⟨b, off + k * 10 + 5, none⟩ = some (.int .i64 ssh) ∧ wr.cell? ⟨b, off + k * 10 + 6, none⟩ = some (.slice A2 srows.length c2) ∧ wr.cell? ⟨b, off + k * 10 + 7, none⟩ = some (.int .i64 snet) ∧ wr.cell? ⟨b, off + k * 10 + 8, none⟩ = some (.slice B2 stk.length d2) ∧ wr.cell? ⟨b, off + k * 10 + 9, none⟩ = some (.int .i64 spy) := ⟨hc 0 _ rfl, hc 1 _ rfl, hc 2 _ rfl, hc 3 _ rfl, hc 4 _ rfl, hc 5 _ rfl, hc 6 _ rfl, hc 7 _ rfl, hc 8 _ rfl, hc 9 _ rfl⟩
  unfold CopyR at KC1
  unfold spC at KC1
  dsimp only at KC1 HTK
  have hsz := hbl.size
  have hb1 := bA hbl (.cells #[.int .i64 sp, .int .i64 sc, .int .i64 st, .int .i64 ss, .int .i64 stx, .int .i64 ssh, .slice A2 srows.length c2, .int .i64 snet, .slice B2 stk.length d2, .int .i64 spy] 45)
  have HO1 := hid (HO.out.alloc (.cells #[.int .i64 sp, .int .i64 sc, .int .i64 st, .int .i64 ss, .int .i64 stx, .int .i64 ssh, .slice A2 srows.length c2, .int .i64 snet, .slice B2 stk.length d2, .int .i64 spy] 45))
  have y := Blk.mk wr 45 #[.int .i64 sp, .int .i64 sc, .int .i64 st, .int .i64 ss, .int .i64 stx, .int .i64 ssh, .slice A2 srows.length c2, .int .i64 snet, .slice B2 stk.length d2, .int .i64 spy]
  obtain ⟨⟨y0, y1, y2, y3, y4, y5, y6, y7, y8, y9⟩, -⟩ := y.a10f
  clear hc y
  go_wp2_with fail
  refine (KC1.out _ hb1).mono ?_
  rintro e w2 ⟨⟨A5, c5', B5, d5, rfl, hoc⟩, hb2⟩
  have hb3 := bT hb1 hb2
  have HOC := hid hoc
  have HO2 := hid (oB9 HO1.out hb2)
  have HQ2 : Hid (∀ q ∈ L', SpOwn w2 w.heap.size q) := fun q hq => ((HQ.out q hq).below (bz1 wr _)).below hb2
  have hs3 := hb3.size
  have HSZ : Hid (w.heap.size ≤ (wr.alloc (.cells #[.int .i64 sp, .int .i64 sc, .int .i64 st, .int .i64 ss, .int .i64 stx, .int .i64 ssh, .slice A2 srows.length c2, .int .i64 snet, .slice B2 stk.length d2, .int .i64 spy] 45)).heap.size) := hb1.size
  clear hoc HO1 HQ hb1 hb2 y0 y1 y2 y3 y4 y5 y6 y7 y8 y9 c0 c1 c3 c4 c5 c6 c7 c8 c9 c10
  go_wp2_with (at_builtin; refine wa9 _ rfl _ _ 34 rfl 45 _ 10 112 underlying34 info_slip rfl (by decide) rfl HO2.out #[.int .i64 sp, .int .i64 sc, .int .i64 st, .int .i64 ss, .int .i64 stx, .int .i64 ssh, .slice A5 srows.length c5', .int .i64 snet, .slice B5 stk.length d5, .int .i64 spy] rfl (by first | rfl | simp) rfl (sp_one (⟨⟨sp, ⟨sc, st, ss⟩, stx, ssh, srows, snet, stk, spy⟩, A5, c5', B5, d5⟩ : SpP)) (by omega) (by omega) (by first | omega | (simp; omega)) ?_; intro v' w6 ho' hg)
  obtain ⟨A6, c6, rfl⟩ := oL9 ho'
  go_roundw
  case rel =>
   refine ⟨k + 1, A6, c6, L' ++ [(⟨⟨sp, ⟨sc, st, ss⟩, stx, ssh, srows, snet, stk, spy⟩, A5, c5', B5, d5⟩ : SpP)], by omega, by go_num, rfl, ?_, ?_, ?_, ?_, ?_⟩
   ·
    unfold Hid
    rw [List.flatMap_append]
    exact ho'
   ·
    unfold Hid
    rw [List.length_append, HLN.out]; rfl
   ·
    unfold Hid
    rw [List.map_append, HM.out, HTK.out]; rfl
   ·
    intro q hq
    rcases List.mem_append.1 hq with hq | hq
    ·
     exact ((HQ2.out q hq).grown HO2.out hg)
    ·
     rw [List.mem_singleton] at hq
     subst hq
     exact (HOC.out.more HSZ.out).grown HO2.out hg
   ·
    exact bP hb3 HO2.out hg (Nat.le_refl _)
  case measure => simp [intOf]; omega
def YCloneR (Y : Yr) (w : World) (e : Ending) (w' : World) : Prop := (∃ q A c B d, e = .returned (.pointer (some ⟨q, 0, none⟩)) ∧ w.heap.size ≤ q ∧ Ya9 w' w.heap.size q Y A c B d) ∧ Below w.heap.size w w'
theorem yclone_c (p base : Nat) (Y : Yr) (A : Option Addr) (c : Nat) (B : Option Addr) (d : Nat) (w : World) (h : Ya9 w base p Y A c B d) (hn : Y.t.rows.length ≤ 1000) (hl : Y.sl.length ≤ 1000) (hz : ∀ z ∈ Y.sl, z.rows.length ≤ 1000 ∧ z.tk.length ≤ 1000) :
  Calls prog 43 #[.pointer (some ⟨p, 0, none⟩)] w (YCloneR Y w) := by
 have HF0 := hid (Fr.start w)
 have hk := h.blk
 have d0 := hk.cv 0 (.int .i64 Y.n) rfl
 have KS := hid (fun W (hW : Below w.heap.size w W) => yslips_c p base Y A c B d W (h.below hW) hl hz)
 have KT := hid (fun W (hW : Below w.heap.size w W) => ytotals_c p base Y A c B d W (h.below hW) hn)
 have HY := hid hk
 unfold SlipsR at KS
 unfold ToR toC at KT
 unfold YCloneR
 clear h hn hl hz hk
 obtain ⟨yn, ys, ⟨⟨bc, bt, bs⟩, tx, sh, rows, net, tk, py⟩⟩ := Y
 unfold yrC at HY
 dsimp only at KS KT HY d0 ⊢
 generalize HNS : ys.length = n at *
 generalize HNR : rows.length = m at *
 have HNS := hid HNS
 have HNR := hid HNR
 go_enter func43, ntmps43
 go_wp2_with fail
 have G : Hid (∀ W, Below w.heap.size w W → Below w.heap.size w W ∧ (W.cell? ⟨p, 0, none⟩ = some (.int .i64 yn))) := fun W hW => ⟨hW, (HY.out.t (HF0.out.ca hW).bl).cv 0 _ rfl⟩
 have hB := (b0 w).drew
 have HF1 := hid (HF0.out.dr)
 refine wG9 G 11 (by kernel_rfl) hB (fun hH9 => ?_)
 refine tkG 0 (h := ?_)
 refine tkG 1 (h := ?_)
 refine tkG 2 (h := ?_)
 refine tkG 3 (h := ?_)
 refine tkG 4 (h := ?_)
 refine tkG 6 (h := ?_)
 refine tkO 5 (h := fun Kx hK => ?_)
 go_simp
 go_at_call 12
 refine (KS.out _ HF1.out.bl).mono ?_
 rintro e W2 ⟨⟨A1, c1, rfl, hs⟩, hb⟩
 replace hB := bT hB hb
 have HF2 := hid (HF1.out.ca hb)
 have HSL := hid (hs.more HF1.out.bl.size)
 clear hs
 clear hb
 refine shG hK (G.out _ hB) (h := fun hH9 => ?_)
 clear hK Kx
 refine tkO 7 (h := fun Kx hK => ?_)
 go_simp
 go_at_call 26
 refine (KT.out _ HF2.out.bl).mono ?_
 rintro e W3 ⟨⟨B1, d1, rfl, hr⟩, hb⟩
 replace hB := bT hB hb
 replace HSL := hid (HSL.out.below hb)
 have HF3 := hid (HF2.out.ca hb)
 have HRW := hid (oM9 hr HF2.out.bl.size)
 clear hr
 clear hb
 refine shG hK (G.out _ hB) (h := fun hH9 => ?_)
 clear hK Kx
 refine tkG 8 (h := ?_)
 refine tkO 9 (h := fun Kx hK => ?_)
 go_simp
 replace hB := bA hB (.cells #[.int .i64 yn, .slice A1 n c1, .int .i64 bc, .int .i64 bt, .int .i64 bs, .int .i64 tx, .int .i64 sh, .slice B1 m d1, .int .i64 net, .int .i64 tk, .int .i64 py] 111)
 have HSL2 := hid (HSL.out.below (bz1 _ (.cells #[.int .i64 yn, .slice A1 n c1, .int .i64 bc, .int .i64 bt, .int .i64 bs, .int .i64 tx, .int .i64 sh, .slice B1 m d1, .int .i64 net, .int .i64 tk, .int .i64 py] 111)))
 have HRW2 := hid (HRW.out.alloc (.cells #[.int .i64 yn, .slice A1 n c1, .int .i64 bc, .int .i64 bt, .int .i64 bs, .int .i64 tx, .int .i64 sh, .slice B1 m d1, .int .i64 net, .int .i64 tk, .int .i64 py] 111))
 have HBK : Hid (Blk _ W3.heap.size 111 #[.int .i64 yn, .slice A1 n c1, .int .i64 bc, .int .i64 bt, .int .i64 bs, .int .i64 tx, .int .i64 sh, .slice B1 m d1, .int .i64 net, .int .i64 tk, .int .i64 py]) := Blk.mk W3 111 #[.int .i64 yn, .slice A1 n c1, .int .i64 bc, .int .i64 bt, .int .i64 bs, .int .i64 tx, .int .i64 sh, .slice B1 m d1, .int .i64 net, .int .i64 tk, .int .i64 py]
 have HBB := hid (bT HF3.out.bl (bz1 _ (.cells #[.int .i64 yn, .slice A1 n c1, .int .i64 bc, .int .i64 bt, .int .i64 bs, .int .i64 tx, .int .i64 sh, .slice B1 m d1, .int .i64 net, .int .i64 tk, .int .i64 py] 111)))
 refine shG hK (G.out _ hB) (h := fun hH9 => ?_)
 clear hK Kx
 refine tkG 10 (h := ?_)
 refine wD9 (by kernel_rfl) ?_ _
 clear G hB hH9
 try simp only [Exit.then]
 go_wp2_with fail
 refine bodyPost_ret (v := .pointer (some ⟨W3.heap.size, 0, none⟩)) (by simp [results, results43, go_sem]) rfl ⟨⟨W3.heap.size, A1, c1, B1, d1, rfl, HF3.out.bl.size, ?_, ?_, ?_⟩, HBB.out⟩
 ·
  unfold yrC
  dsimp only
  rw [HNS.out, HNR.out]
  exact HBK.out
 ·
  dsimp only
  rw [HNS.out]
  exact HSL2.out
 ·
  dsimp only
  rw [HNR.out]
  exact HRW2.out
structure EmOK (fq days : Int) (E : Em) : Prop where
 f : nIz fq ≠ 0
 d : 0 ≤ days ∧ days ≤ 366
 tb : keepE E.tb = 0
 ts : E.tb.sch.length ≤ 20
 tc : E.tb.cts.length ≤ 20
 tk : E.tb.kds.length ≤ 30
 nx : E.next.length ≤ 1000
 ins : (E.ins.length : Int) ≤ cntI fq days
 il : ∀ z ∈ E.ins, z.l.length ≤ 1000
 yn : E.yr.n = E.tb.cts.length
 yr : E.yr.t.rows.length = E.tb.cts.length
 sl : E.yr.sl.length = E.ins.length
 each : ∀ z ∈ E.yr.sl, z.rows.length ≤ 20 ∧ z.tk.length ≤ 8
 bk : GoodA E.bk
 so : SortO E.bk
theorem cnt_le {fq days : Int} (hd : 0 ≤ days ∧ days ≤ 366) : cntI fq days ≤ 53 := by unfold cntI; split <;> (try split) <;> (try split) <;> omega
theorem EmOK.ins53 {fq days : Int} {E : Em} (h : EmOK fq days E) : E.ins.length ≤ 53 := by
 have h1 := h.ins
 have h2 := cnt_le (fq := fq) h.d
 omega
theorem Ea9.letters {w : World} {lo li : Nat} {fq days : Int} {p y o : Nat} {E : Em} (h : Ea9 w lo li fq days p y o E) : ∃ (K : EmC) (ns nc nk nn ni : Nat), ns = E.tb.sch.length ∧ nc = E.tb.cts.length ∧ nk = E.tb.kds.length ∧ nn = E.next.length ∧ ni = E.ins.length ∧
  Blk w p 109 #[.slice K.As ns K.cs, .slice K.Ac nc K.cc, .slice K.Ak nk K.ck, .int .i64 E.tb.lim, .int .i64 E.tb.rnd, .pointer (some ⟨K.gy, 0, none⟩), .int .i64 E.c.s, .int .i64 E.c.k, .int .i64 E.c.a, .int .i64 E.c.f, .bool E.c.al, .int .i64 E.prot, .slice K.An nn K.cn, .slice K.Ai ni K.ci, .pointer (some ⟨y, 0, none⟩), .pointer (some ⟨o, 0, none⟩)] ∧ EmRows w lo li fq days E K y o := by
 obtain ⟨K, h1, h2⟩ := h.ex
 exact ⟨K, _, _, _, _, _, rfl, rfl, rfl, rfl, rfl, h1, h2⟩
def ValB (v : Value) (w : World) (e : Ending) (w' : World) : Prop := e = .returned v ∧ Below w.heap.size w w'
def periodI (E : Em) (cnt : Int) : Int := if (E.ins.length : Int) = cnt then 0 else (E.ins.length : Int) + 1
theorem rperiod_c (fq days : Int) (lo li p y o : Nat) (E : Em) (w : World) (h : Ea9 w lo li fq days p y o E) (hk : EmOK fq days E) :
  Calls prog 38 #[.pointer (some ⟨p, 0, none⟩)] w (ValB (.int .i64 (periodI E (cntI fq days))) w) := by
 have HF0 := hid (Fr.start w)
 obtain ⟨K, ns, nc, nk, nn, ni, hns, hnc, hnk, hnn, hni, hB, hR⟩ := h.letters
 have HB := hid hB
 have HRW := hid hR
 have HNS := hid hns
 have HNC := hid hnc
 have HNK := hid hnk
 have HNN := hid hnn
 have HNI := hid hni
 have HLT : Hid (p < w.heap.size) := hB.lt
 have h53 := hk.ins53
 have KC := hid (fun W (hW : Below w.heap.size w W) => (count_c fq days hk.f hk.d K.gy W (hR.gy.t hW)).mono fun e w' (h : _ ∧ _) => (⟨h.1, h.2 ▸ b0 _⟩ : _ ∧ Below W.heap.size W w'))
 unfold ValB periodI
 rw [← hni] at h53 ⊢
 generalize cntI fq days = m at *
 have hw : IntKind.i64.wrap ((ni : Int) + 1) = (ni : Int) + 1 := by rw [IntKind.wrap_i64]; omega
 generalize hr : (if (ni : Int) = m then (0 : Int) else (ni : Int) + 1) = r
 have HRR := hid hr.symm
 clear hr
 have d13 := HB.out.cv 13 (.slice K.Ai ni K.ci) rfl
 clear h hk
 clear hns hnc hnk hnn hni hB hR
 go_enter func38, ntmps38
 go_wp2_with fail
 have G : Hid (∀ W, Below w.heap.size w W → Below w.heap.size w W ∧ (W.cell? ⟨p, 13, none⟩ = some (.slice K.Ai ni K.ci) ∧ W.cell? ⟨p, 5, none⟩ = some (.pointer (some ⟨K.gy, 0, none⟩)))) := fun W hW => ⟨hW, (HB.out.t (HF0.out.ca hW).bl).cv 13 _ rfl, (HB.out.t (HF0.out.ca hW).bl).cv 5 _ rfl⟩
 have hB := (b0 w).drew
 have HF1 := hid (HF0.out.dr)
 refine wG9 G 11 (by kernel_rfl) hB (fun hH9 => ?_)
 refine tkG 0 (h := ?_)
 refine tkG 1 (h := ?_)
 refine tkG 2 (h := ?_)
 refine tkG 3 (h := ?_)
 refine tkG 4 (h := ?_)
 refine tkG 5 (h := ?_)
 refine tkG 6 (h := ?_)
 refine tkG 7 (h := ?_)
 refine tkG 8 (h := ?_)
 refine tkO 9 (h := fun Kx hK => ?_)
 go_simp
 go_at_call 73
 refine (KC.out _ HF1.out.bl).mono ?_
 rintro e W2 ⟨rfl, hb⟩
 replace hB := bT hB hb
 have HF2 := hid (HF1.out.ca hb)
 clear hb
 refine shG hK (G.out _ hB) (h := fun hH9 => ?_)
 clear hK Kx
 refine tkG 10 (h := ?_)
 refine wD9 (by kernel_rfl) ?_ _
 clear G hB hH9
 try simp only [Exit.then]
 by_cases h0 : (ni : Int) = m
 ·
  have tr : ((ni : Int) == m) = true := by simpa using h0
  skip
  go_wp2_with fail
  refine bodyPost_ret (v := .int .i64 0) (by simp [results, results38, go_sem]) rfl ⟨by rw [HRR.out, if_pos h0], HF2.out.bl⟩
 ·
  have tr : ((ni : Int) == m) = false := by simpa using h0
  have d13 := (HB.out.t HF2.out.bl).cv 13 (.slice K.Ai ni K.ci) rfl
  go_wp2_with fail
  refine bodyPost_ret (v := .int .i64 ((ni : Int) + 1)) (by simp [results, results38, go_sem]) rfl ⟨by rw [HRR.out, if_neg h0], HF2.out.bl⟩
theorem ropen_c (fq days : Int) (lo li p y o : Nat) (E : Em) (w : World) (h : Ea9 w lo li fq days p y o E) (hk : EmOK fq days E) :
  Calls prog 51 #[.pointer (some ⟨p, 0, none⟩)] w (ValB (.int .i64 (openE E (cntI fq days))) w) := by
 have K := hid (rperiod_c fq days lo li p y o E w h hk)
 unfold ValB periodI at K
 unfold ValB openE
 clear h hk
 generalize cntI fq days = m at *
 generalize E.ins.length = n at *
 go_enter func51, ntmps51
 by_cases h0 : (n : Int) = m
 ·
  rw [if_pos h0]
  rw [if_pos h0] at K
  go_wp2_with fail
  refine K.out.mono ?_
  rintro e w1 ⟨rfl, hb⟩
  go_wp2_with fail
  refine bodyPost_ret (v := .int .i64 210) (by simp [results, results51, go_sem]) rfl ⟨rfl, hb⟩
 ·
  rw [if_neg h0]
  rw [if_neg h0] at K
  have tr : ((n : Int) + 1 == 0) = false := by simp; omega
  go_wp2_with fail
  refine K.out.mono ?_
  rintro e w1 ⟨rfl, hb⟩
  go_wp2_with fail
  refine bodyPost_ret (v := .int .i64 0) (by simp [results, results51, go_sem]) rfl ⟨rfl, hb⟩
--%
theorem rnext_c (fq days : Int) (lo li p y o : Nat) (E : Em) (w : World) (h : Ea9 w lo li fq days p y o E) (hn : E.next.length ≤ 1000) :
  Calls prog 14 #[.pointer (some ⟨p, 0, none⟩)] w (CloneV 98 3 E.next.length (E.next.flatMap elC) w) := by
 have HF0 := hid (Fr.start w)
 obtain ⟨K, ns, nc, nk, nn, ni, hns, hnc, hnk, hnn, hni, hB, hR⟩ := h.letters
 have HB := hid hB
 have HRW := hid hR
 have HNS := hid hns
 have HNC := hid hnc
 have HNK := hid hnk
 have HNN := hid hnn
 have HNI := hid hni
 have HLT : Hid (p < w.heap.size) := hB.lt
 have KK := hid (clone_el K.An nn K.cn E.next w (by rw [hnn]; exact el_row hR.nx rfl) (by rw [hnn]; omega))
 rw [← hnn]
 clear hns hnc hnk hnn hni hB hR
 clear h
 have dd := HB.out.cv 12 (.slice K.An nn K.cn) rfl
 go_enter func14, ntmps14
 go_wp2_with fail
 refine (KK.out).mono ?_
 rintro e w1 ⟨⟨A1, c1, rfl, ho⟩, hb⟩
 go_wp2_with fail
 refine bodyPost_ret (v := .slice A1 nn c1) (by simp [results, results14, go_sem]) rfl ⟨⟨A1, c1, rfl, ho⟩, hb⟩
theorem info_input : (prog.info? 67).map (fun i => (i.zero, i.size, i.bytes)) = some (some (.agg #[.int .i64 0, .int .i64 0, .int .i64 0, .int .i64 0, .bool false, .slice none 0 0]), 6, 64) := by kernel_rfl
theorem inp_one (x : InP) : ∀ u ∈ inPC x, u.oneCell' = true := by intro u hu; simp [inPC] at hu; rcases hu with rfl | rfl | rfl | rfl | rfl | rfl <;> rfl
theorem clone_inp (A : Option Addr) (n c : Nat) (l : List InP) (w : World) (h : Rlz inPC 6 inp0 w A n l) (hn : n ≤ 1000000) :
  Calls prog 84 #[.slice A n c] w (CloneV 67 6 n (l.flatMap inPC) w) := by
 have hq := fun W => Lib.run_eql_slice_nil (P := prog) W 53 67 A n c 0 0 underlying53
 have h := h.src ilz
 have h1 := all_one inp_one l
 generalize l.flatMap inPC = news at *
 cases hA : A with
 | none =>
  subst hA
  obtain ⟨h2, h3⟩ := h
  have h0 : n = 0 := by
   rcases Nat.eq_zero_or_pos n with h0 | h0
   ·
    exact h0
   ·
    obtain ⟨b, off, h, _⟩ := h3 h0
    cases h
  subst h0
  have hl : news = [] := List.eq_nil_of_length_eq_zero (by simpa using h2)
  subst hl
  clear h3 h2 h1
  go_enter func84, ntmps84
  go_wp2
  go_ret
  exact ⟨⟨none, 0, rfl, World.ownsRow_nil _ _ _ _⟩, Below.refl _ _⟩
 | some ad =>
  subst hA
  have HS := hid (h.below (bz1 w (.cells #[] 67)))
  have H1 := hid h1
  clear h h1
  have HO := hid (World.ownsRow_lit (e := 67) (size := 6) (base := w.heap.size) w #[] 0 (Nat.le_refl _) (by decide) rfl)
  go_enter func84, ntmps84
  go_wp2_with (at_builtin; refine wn9 _ rfl _ _ 53 rfl 67 _ 6 64 underlying53 info_input rfl (by decide) rfl HO.out _ _ _ _ rfl HS.out H1.out (by omega) (by omega) (by simp) ?_; intro v' w1 ho hg)
  obtain ⟨A', c', rfl⟩ := oL9 ho
  refine bodyPost_ret (v := .slice A' n c') (by simp [results, results84, go_sem]) rfl ?_
  refine ⟨⟨A', c', rfl, ?_⟩, (bz1 _ _).grown hg (by simp) (fun k hk => by injection hk with hk; exact Nat.le_of_eq hk)⟩
  simpa using ho
def InsR (l : List In) (w : World) (e : Ending) (w' : World) : Prop := (∃ A c, e = .returned (.slice A l.length c) ∧ Iw9 w' w.heap.size w.heap.size A l.length c l) ∧ Below w.heap.size w w'
structure ElOwn (w : World) (base : Nat) (q : InP) : Prop where
 n : q.n = q.z.l.length
 o : w.ownsRow base 98 3 (.slice q.A q.n q.k) q.n (q.z.l.flatMap elC)
theorem ElOwn.below {w w' : World} {base : Nat} {q : InP} (h : ElOwn w base q) (hb : Below w.heap.size w w') : ElOwn w' base q := ⟨h.n, oB9 h.o hb⟩
theorem ElOwn.more {w : World} {base base' : Nat} {q : InP} (h : ElOwn w base q) (hb : base' ≤ base) : ElOwn w base' q := ⟨h.n, oM9 h.o hb⟩
theorem ElOwn.grown {w w' : World} {base : Nat} {q : InP} (h : ElOwn w base q) {base' size' n' : Nat} {v' : Value} {xs' : List Value} (ho : w.ownsRow base' 67 size' v' n' xs') (hg : w.grownBy w' v'.ownBlock) : ElOwn w' base q :=
 ⟨h.n, h.o.kept hg (ooz h.o ho (by decide))⟩
theorem rcopied_cT (fq : Nat) (hfq : fq = 50 ∨ fq = 48) (A : Option Addr) (n c : Nat) (l : List In) (w : World) (h : Inz w A n l) (hl : n ≤ 1000) (hz : ∀ z ∈ l, z.l.length ≤ 1000) :
  Calls prog fq #[.slice A n c] w (InsR l w) := by
 rcases hfq with rfl | rfl
 all_goals
  obtain ⟨L, hL1, hL2, hL3⟩ := h.ex
  have HR := hid hL2
  have HN2 : Hid (n = L.length) := hL2.1
  have HNN : Hid (n = l.length) := h.len
  have HL1 := hid hL1
  have KC : Hid (∀ q ∈ L, q.n = q.z.l.length ∧ ∀ W, Below w.heap.size w W → Calls prog 47 #[.slice q.A q.n q.k] W (CloneV 98 3 q.n (q.z.l.flatMap elC) W)) := fun q hq => by
   have h1 := hL3 q hq
   have h2 := hz q.z (by rw [← hL1]; exact List.mem_map_of_mem hq)
   have h3 : q.n = q.z.l.length := h1.1
   exact ⟨h3, fun W hW => clone_el q.A q.n q.k q.z.l W (h1.below hW) (by omega)⟩
  have hn9 : n ≤ 9223372036854775807 := by omega
  unfold InsR
  rw [← HNN.out]
  clear h hz hL1 hL2 hL3
  (first | go_enter func50, ntmps50 | go_enter func48, ntmps48)
  go_wp2_with fail
  go_loopw [3, 8] (fun o i wr => ∃ (k : Nat) (A' : Option Addr) (c' : Nat) (L' : List InP), k ≤ n ∧ i = .int .i64 k ∧ o = .slice A' k c' ∧ Hid (wr.ownsRow w.heap.size 67 6 (.slice A' k c') k (L'.flatMap inPC)) ∧ Hid (L'.length = k) ∧ Hid (L'.map InP.z = l.take k) ∧ Hid (∀ q ∈ L', ElOwn wr w.heap.size q) ∧ Below w.heap.size w wr) (fun _ i _ => n - (intOf i).toNat)
  case atStart =>
   refine ⟨0, none, 0, [], Nat.zero_le _, rfl, rfl, hid (World.ownsRow_nil _ _ _ _), hid rfl, hid rfl, hid ?_, b0 w⟩
   intro q hq
   cases hq
  case round =>
   obtain ⟨k, A', c', L', hk', rfl, rfl, HO, HLN, HM, HQ, hbl⟩ := hrel
   by_cases hk : k < n
   case neg =>
    obtain rfl : k = n := by omega
    go_wp2_with fail
    refine bodyPost_ret (v := .slice A' k c') (by simp [results, results50, results48, go_sem]) rfl ⟨⟨A', c', rfl, L', ?_, HLN.out.symm, HO.out, fun q hq => ⟨(HQ.out q hq).n, (HQ.out q hq).o⟩⟩, hbl⟩
    rw [HM.out, HNN.out, List.take_length]
   obtain ⟨b, off, rfl, hlt, hat⟩ := (HR.out.below hbl).2.2 (by omega)
   have hc := hat k hk
   have hqm := gez' inp0 (l := L) (k := k) (by rw [← HN2.out]; exact hk)
   have HTK : Hid (l.take (k + 1) = l.take k ++ [(L.getD k inp0).z]) := by
    unfold Hid
    rw [← HL1.out]
    have h1 := take_next (L.map InP.z) k inp0.z (by rw [List.length_map, ← HN2.out]; exact hk)
    rw [h1, gmz' InP.z L k inp0 (by rw [← HN2.out]; exact hk)]
   have KC1 := hid (KC.out _ hqm)
   clear hat hqm
   generalize L.getD k inp0 = q at *
   obtain ⟨⟨⟨s, kd, a, f, al⟩, els⟩, Aq, nq, kq⟩ := q
   obtain ⟨c0, c1, c2, c3, c4, c5⟩ : wr.cell? ⟨b, off + k * 6, none⟩ = some (.int .i64 s) ∧ wr.cell? ⟨b, off + k * 6 + 1, none⟩ = some (.int .i64 kd) ∧ wr.cell? ⟨b, off + k * 6 + 2, none⟩ = some (.int .i64 a) ∧ wr.cell? ⟨b, off + k * 6 + 3, none⟩ = some (.int .i64 f) ∧ wr.cell? ⟨b, off + k * 6 + 4, none⟩ = some (.bool al) ∧ wr.cell? ⟨b, off + k * 6 + 5, none⟩ = some (.slice Aq nq kq) := ⟨hc 0 _ rfl, hc 1 _ rfl, hc 2 _ rfl, hc 3 _ rfl, hc 4 _ rfl, hc 5 _ rfl⟩
   unfold CloneV at KC1
   dsimp only at KC1 HTK
   have HNQ := hid KC1.out.1
   have KC2 := hid KC1.out.2
   have HSZ := hid hbl.size
   clear hc KC1
   have HF0 := hid (Fr.zero hbl)
   have HLO : Hid (∀ g, (Value.slice A' k c').ownBlock = some g → w.heap.size ≤ g ∧ g < wr.heap.size) := HO.out.lt
   have HF1 := al9 ((HF0.out.al 67 #[.int .i64 s, .int .i64 kd, .int .i64 a, .int .i64 f, .bool al, .slice Aq nq kq]))
   clear HF0
   replace HO := hid (HO.out.alloc (.cells #[.int .i64 s, .int .i64 kd, .int .i64 a, .int .i64 f, .bool al, .slice Aq nq kq] 67))
   replace HQ : Hid (∀ q ∈ L', ElOwn (wr.alloc (.cells #[.int .i64 s, .int .i64 kd, .int .i64 a, .int .i64 f, .bool al, .slice Aq nq kq] 67)) w.heap.size q) := fun q hq => (HQ.out q hq).below (bz1 wr _)
   go_upto_region 5 with fail
   clear c0 c1 c2 c3 c4 c5
   go_wp2_with fail
   generalize hwn : wr.alloc (.cells #[.int .i64 s, .int .i64 kd, .int .i64 a, .int .i64 f, .bool al, .slice Aq nq kq] 67) = v1 at *
   try clear hwn
   have G : Hid (∀ W, Fr w W [(wr.heap.size, 67, #[.int .i64 s, .int .i64 kd, .int .i64 a, .int .i64 f, .bool al, .slice Aq nq kq])] → Below w.heap.size w W ∧ (W.cell? ⟨wr.heap.size, 0, none⟩ = some (.int .i64 s) ∧ W.cell? ⟨wr.heap.size, 1, none⟩ = some (.int .i64 kd) ∧ W.cell? ⟨wr.heap.size, 2, none⟩ = some (.int .i64 a) ∧ W.cell? ⟨wr.heap.size, 3, none⟩ = some (.int .i64 f) ∧ W.cell? ⟨wr.heap.size, 4, none⟩ = some (.bool al) ∧ W.cell? ⟨wr.heap.size, 5, none⟩ = some (.slice Aq nq kq))) := fun W hW => ⟨hW.bl, (hW.b 0 rfl).cv 0 _ rfl, (hW.b 0 rfl).cv 1 _ rfl, (hW.b 0 rfl).cv 2 _ rfl, (hW.b 0 rfl).cv 3 _ rfl, (hW.b 0 rfl).cv 4 _ rfl, (hW.b 0 rfl).cv 5 _ rfl⟩
   replace HO := hid (own_drew0 HO.out)
   have HF2 := hid (HF1.out.dr)
   refine wG9 G 10 (by kernel_rfl) HF2.out (fun hH9 => ?_)
   refine tkG 0 (h := ?_)
   refine tkG 1 (h := ?_)
   refine tkG 2 (h := ?_)
   refine tkG 3 (h := ?_)
   refine tkG 4 (h := ?_)
   refine tkO 5 (h := fun Kx hK => ?_)
   go_simp
   go_at_call 47
   refine (KC2.out _ HF2.out.bl).mono ?_
   rintro e W2 ⟨⟨A5, c5, rfl, ho5⟩, hb⟩
   replace HO := hid (oB9 HO.out hb)
   have HF3 := hid (HF2.out.ca hb)
   have HO5 := hid (oM9 ho5 HF2.out.bl.size)
   clear ho5
   replace HQ : Hid (∀ q ∈ L', ElOwn W2 w.heap.size q) := fun q hq => ((HQ.out q hq).below (b0 _).drew).below hb
   clear hb
   refine shG hK (G.out _ HF3.out) (h := fun hH9 => ?_)
   clear hK Kx
   refine tkG 6 (h := ?_)
   refine tkO 7 (h := fun Kx hK => ?_)
   go_simp
   refine shG hK (G.out _ (HF3.out.ca (bz1 _ (.cells #[.int .i64 s, .int .i64 kd, .int .i64 a, .int .i64 f, .bool al, .slice A5 nq c5] 67)))) (h := fun hH9 => ?_)
   clear hK Kx
   refine tkO 8 (h := fun Kx hK => ?_)
   obtain ⟨v', w6, hr, ho', hg⟩ := run_app1 (P := prog) W2 53 53 67 _ 6 64 underlying53 info_input rfl (by decide) HO.out #[.int .i64 s, .int .i64 kd, .int .i64 a, .int .i64 f, .bool al, .slice A5 nq c5] rfl (inp_one ⟨⟨⟨s, kd, a, f, al⟩, els⟩, A5, nq, c5⟩) (by omega) (by omega) (HF3.out.bl).size
   obtain ⟨A6, c6, rfl⟩ := oL9 ho'
   have HR6 := hid hr
   have HO6 := hid ho'
   have HG6 := hid hg
   have HF6 := hid (HF3.out.gr hg (fun k hk => (HLO.out k hk).1) (fun x hx => by have hx := List.mem_singleton.1 hx; subst hx; intro he; have := (HLO.out _ he.symm).2; dsimp only at this; omega))
   have HO5_ := HO5
   clear hr ho' hg
   refine step_of_run rfl _ _ _ rfl _ _ rfl rfl _ _ HR6.out ?_
   refine shG hK (G.out _ HF6.out) (h := fun hH9 => ?_)
   clear hK Kx
   refine tkG 9 (h := ?_)
   refine wD9 (by kernel_rfl) ?_ _
   clear G hH9
   try simp only [Exit.then]
   go_wp2_with fail
   go_roundw
   case rel =>
    refine ⟨k + 1, A6, c6, L' ++ [(⟨⟨⟨s, kd, a, f, al⟩, els⟩, A5, nq, c5⟩ : InP)], by omega, by go_num, rfl, ?_, ?_, ?_, ?_, HF6.out.bl⟩
    ·
     unfold Hid
     rw [List.flatMap_append]
     exact HO6.out
    ·
     unfold Hid
     rw [List.length_append, HLN.out]; rfl
    ·
     unfold Hid
     rw [List.map_append, HM.out, HTK.out]; rfl
    ·
     intro q hq
     rcases List.mem_append.1 hq with hq | hq
     ·
      exact (HQ.out q hq).grown HO.out HG6.out
     ·
      rw [List.mem_singleton] at hq
      subst hq
      exact ElOwn.grown ⟨HNQ.out, HO5.out⟩ HO.out HG6.out
   case measure => simp [intOf]; omega
theorem rcopied_c (A : Option Addr) (n c : Nat) (l : List In) (w : World) (h : Inz w A n l) (hl : n ≤ 1000) (hz : ∀ z ∈ l, z.l.length ≤ 1000) :
  Calls prog 50 #[.slice A n c] w (InsR l w) := rcopied_cT _ (by decide) A n c l w h hl hz
theorem dcopied_c (A : Option Addr) (n c : Nat) (l : List In) (w : World) (h : Inz w A n l) (hl : n ≤ 1000) (hz : ∀ z ∈ l, z.l.length ≤ 1000) :
  Calls prog 48 #[.slice A n c] w (InsR l w) := rcopied_cT _ (by decide) A n c l w h hl hz
theorem rinputs_c (fq days : Int) (lo li p y o : Nat) (E : Em) (w : World) (h : Ea9 w lo li fq days p y o E) (hn : E.ins.length ≤ 1000) (hz : ∀ z ∈ E.ins, z.l.length ≤ 1000) :
  Calls prog 18 #[.pointer (some ⟨p, 0, none⟩)] w (InsR E.ins w) := by
 have HF0 := hid (Fr.start w)
 obtain ⟨K, ns, nc, nk, nn, ni, hns, hnc, hnk, hnn, hni, hB, hR⟩ := h.letters
 have HB := hid hB
 have HRW := hid hR
 have HNS := hid hns
 have HNC := hid hnc
 have HNK := hid hnk
 have HNN := hid hnn
 have HNI := hid hni
 have HLT : Hid (p < w.heap.size) := hB.lt
 have KK := hid (rcopied_c K.Ai ni K.ci E.ins w (by rw [hni]; exact hR.ins.view) (by omega) hz)
 clear hns hnc hnk hnn hni hB hR
 clear h
 have dd := HB.out.cv 13 (.slice K.Ai ni K.ci) rfl
 go_enter func18, ntmps18
 go_wp2_with fail
 refine (KK.out).mono ?_
 rintro e w1 ⟨⟨A1, c1, rfl, ho⟩, hb⟩
 go_wp2_with fail
 refine bodyPost_ret (v := .slice A1 E.ins.length c1) (by simp [results, results18, go_sem]) rfl ⟨⟨A1, c1, rfl, ho⟩, hb⟩
def InsWR (E : Em) (lo : Nat) (w : World) (e : Ending) (w' : World) : Prop := (∃ A c, e = .returned (.slice A (tryIn E).length c) ∧ Iw9 w' lo w.heap.size A (tryIn E).length c (tryIn E)) ∧ Below w.heap.size w w'
theorem rwith_c (fq days : Int) (lo li p y o : Nat) (E : Em) (w : World) (h : Ea9 w lo li fq days p y o E) (hn : E.ins.length ≤ 1000) :
  Calls prog 53 #[.pointer (some ⟨p, 0, none⟩)] w (InsWR E lo w) := by
 have HF0 := hid (Fr.start w)
 obtain ⟨K, ns, nc, nk, nn, ni, hns, hnc, hnk, hnn, hni, hB, hR⟩ := h.letters
 have HB := hid hB
 have HRW := hid hR
 have HNS := hid hns
 have HNC := hid hnc
 have HNK := hid hnk
 have HNN := hid hnn
 have HNI := hid hni
 have HLT : Hid (p < w.heap.size) := hB.lt
 obtain ⟨L, hL1, hL2, hL3, hL4⟩ := hR.ins.ex
 have KK := hid (fun W (hW : Below w.heap.size w W) => clone_inp K.Ai ni K.ci L W (ow9 ilz (by rw [hni]; exact oB9 hL3 hW) (by rw [hni, hL2]) (by omega) (by decide)) (by omega))
 have HL1 := hid hL1
 have HL2 : Hid (ni = L.length) := by unfold Hid; rw [hni, hL2]
 have HL4 : Hid (∀ q ∈ L, ElOwn w lo q) := fun q hq => ⟨(hL4 q hq).1, (hL4 q hq).2⟩
 have HNX := hid hR.nx
 rw [← hnn] at HNX
 have HNI9 : Hid (ni ≤ 1000) := by unfold Hid; omega
 unfold InsWR tryIn
 unfold CloneV at KK
 clear hL1 hL2 hL3 hL4
 clear hns hnc hnk hnn hni hB hR
 clear h
 go_enter func53, ntmps53
 go_wp2_with fail
 have G : Hid (∀ W, Fr w W [] → Below w.heap.size w W ∧ (W.cell? ⟨p, 13, none⟩ = some (.slice K.Ai ni K.ci) ∧ W.cell? ⟨p, 6, none⟩ = some (.int .i64 E.c.s) ∧ W.cell? ⟨p, 7, none⟩ = some (.int .i64 E.c.k) ∧ W.cell? ⟨p, 8, none⟩ = some (.int .i64 E.c.a) ∧ W.cell? ⟨p, 9, none⟩ = some (.int .i64 E.c.f) ∧ W.cell? ⟨p, 10, none⟩ = some (.bool E.c.al) ∧ W.cell? ⟨p, 12, none⟩ = some (.slice K.An nn K.cn))) := fun W hW => ⟨hW.bl, (HB.out.t hW.bl).cv 13 _ rfl, (HB.out.t hW.bl).cv 6 _ rfl, (HB.out.t hW.bl).cv 7 _ rfl, (HB.out.t hW.bl).cv 8 _ rfl, (HB.out.t hW.bl).cv 9 _ rfl, (HB.out.t hW.bl).cv 10 _ rfl, (HB.out.t hW.bl).cv 12 _ rfl⟩
 have HF1 := hid (HF0.out.dr)
 refine wG9 G 17 (by kernel_rfl) HF1.out (fun hH9 => ?_)
 refine tkG 0 (h := ?_)
 refine tkG 1 (h := ?_)
 refine tkG 2 (h := ?_)
 refine tkG 3 (h := ?_)
 refine tkG 5 (h := ?_)
 refine tkG 6 (h := ?_)
 refine tkG 7 (h := ?_)
 refine tkG 8 (h := ?_)
 refine tkG 9 (h := ?_)
 refine tkG 10 (h := ?_)
 refine tkG 11 (h := ?_)
 refine tkG 12 (h := ?_)
 refine tkG 13 (h := ?_)
 refine w2z (i := 4) (j := 14) (by kernel_rfl) rfl rfl (fun Kx hK => ?_) (fun Kx hK => ?_)
 ·
  go_simp
  go_at_call 84
  refine (KK.out _ HF1.out.bl).mono ?_
  rintro e W2 ⟨⟨A5, c5, rfl, ho5⟩, hb⟩
  have HF2 := hid (HF1.out.ca hb)
  have HO := hid (oM9 ho5 HF1.out.bl.size)
  clear ho5
  clear hb
  refine shG hK (G.out _ HF2.out) (h := fun hH9 => ?_)
  clear hK Kx
  refine tkO 14 (h := fun Kx hK => ?_)
  go_simp
  have HO_ := HO
  replace HO := hid (HO.out.alloc (.cells #[.int .i64 E.c.s, .int .i64 E.c.k, .int .i64 E.c.a, .int .i64 E.c.f, .bool E.c.al, .slice K.An nn K.cn] 67))
  have HF3 := al8 (HF2.out.al 67 #[.int .i64 E.c.s, .int .i64 E.c.k, .int .i64 E.c.a, .int .i64 E.c.f, .bool E.c.al, .slice K.An nn K.cn])
  refine shG hK (G.out _ (HF3.out.cut 0)) (h := fun hH9 => ?_)
  clear hK Kx
  refine tkO 15 (h := fun Kx hK => ?_)
  obtain ⟨v', w6, hr, ho', hg⟩ := run_appN (P := prog) (W2.alloc (.cells #[.int .i64 E.c.s, .int .i64 E.c.k, .int .i64 E.c.a, .int .i64 E.c.f, .bool E.c.al, .slice K.An nn K.cn] 67)) 53 53 67 _ 6 64 underlying53 info_input rfl (by decide) HO.out _ 1 1 _ (blk_src (HF3.out.b 0 rfl)) (inp_one ⟨⟨E.c, E.next⟩, K.An, nn, K.cn⟩) (by have := HNI9.out; omega) (by have := HNI9.out; omega) (HF3.out.bl).size
  obtain ⟨A6, c6, rfl⟩ := oL9 ho'
  have HR6 := hid hr
  have HO6 := hid ho'
  have HBW := hid HF3.out.bl
  have HF6 := hid ((HF3.out.cut 0).gr hg (fun k hk => (HO.out.lt k hk).1) (fun x hx => by cases hx))
  have HG6 := hid hg
  clear hr ho' hg
  refine step_of_run rfl _ _ _ rfl _ _ rfl rfl _ _ HR6.out ?_
  refine shG hK (G.out _ HF6.out) (h := fun hH9 => ?_)
  clear hK Kx
  refine tkG 16 (h := ?_)
  refine wD9 (by kernel_rfl) ?_ _
  clear G hH9
  try simp only [Exit.then]
  go_wp2_with fail
  refine bodyPost_ret (v := .slice A6 (ni + 1) c6) (by simp [results, results53, go_sem]) rfl ⟨⟨A6, c6, ?_, L ++ [(⟨⟨E.c, E.next⟩, K.An, nn, K.cn⟩ : InP)], ?_, ?_, ?_, ?_⟩, HF6.out.bl⟩
  ·
   rw [← HNI.out]
  ·
   rw [List.map_append, HL1.out]; rfl
  ·
   have h1 := HNI.out
   have h2 := HL2.out
   simp only [List.length_append, List.length_cons, List.length_nil]
   omega
  ·
   rw [← HNI.out, List.flatMap_append]; exact HO6.out
  ·
   intro q hq
   have hg2 : ElOwn w6 lo q := by
    rcases List.mem_append.1 hq with hq | hq
    ·
     exact ((HL4.out q hq).below HBW.out).grown HO.out HG6.out
    ·
     rw [List.mem_singleton] at hq
     subst hq
     exact ElOwn.grown (ElOwn.below ⟨HNN.out, HNX.out⟩ HBW.out) HO.out HG6.out
   exact ⟨hg2.n, hg2.o⟩
 ·
  go_simp
  have HF2 := al8 (HF1.out.al 67 #[.int .i64 E.c.s, .int .i64 E.c.k, .int .i64 E.c.a, .int .i64 E.c.f, .bool E.c.al, .slice K.An nn K.cn])
  refine shG hK (G.out _ (HF2.out.cut 0)) (h := fun hH9 => ?_)
  clear hK Kx
  refine tkO 4 (h := fun Kx hK => ?_)
  go_simp
  go_at_call 84
  refine (KK.out _ HF2.out.bl).mono ?_
  rintro e W2 ⟨⟨A5, c5, rfl, ho5⟩, hb⟩
  have HF3 := hid (HF2.out.ca hb)
  have HO := hid (oM9 ho5 HF2.out.bl.size)
  clear ho5
  clear hb
  refine shG hK (G.out _ (HF3.out.cut 0)) (h := fun hH9 => ?_)
  clear hK Kx
  refine tkO 15 (h := fun Kx hK => ?_)
  obtain ⟨v', w6, hr, ho', hg⟩ := run_appN (P := prog) W2 53 53 67 _ 6 64 underlying53 info_input rfl (by decide) HO.out _ 1 1 _ (blk_src (HF3.out.b 0 rfl)) (inp_one ⟨⟨E.c, E.next⟩, K.An, nn, K.cn⟩) (by have := HNI9.out; omega) (by have := HNI9.out; omega) (HF3.out.bl).size
  obtain ⟨A6, c6, rfl⟩ := oL9 ho'
  have HR6 := hid hr
  have HO6 := hid ho'
  have HBW := hid HF3.out.bl
  have HF6 := hid ((HF3.out.cut 0).gr hg (fun k hk => (HO.out.lt k hk).1) (fun x hx => by cases hx))
  have HG6 := hid hg
  clear hr ho' hg
  refine step_of_run rfl _ _ _ rfl _ _ rfl rfl _ _ HR6.out ?_
  refine shG hK (G.out _ HF6.out) (h := fun hH9 => ?_)
  clear hK Kx
  refine tkG 16 (h := ?_)
  refine wD9 (by kernel_rfl) ?_ _
  clear G hH9
  try simp only [Exit.then]
  go_wp2_with fail
  refine bodyPost_ret (v := .slice A6 (ni + 1) c6) (by simp [results, results53, go_sem]) rfl ⟨⟨A6, c6, ?_, L ++ [(⟨⟨E.c, E.next⟩, K.An, nn, K.cn⟩ : InP)], ?_, ?_, ?_, ?_⟩, HF6.out.bl⟩
  ·
   rw [← HNI.out]
  ·
   rw [List.map_append, HL1.out]; rfl
  ·
   have h1 := HNI.out
   have h2 := HL2.out
   simp only [List.length_append, List.length_cons, List.length_nil]
   omega
  ·
   rw [← HNI.out, List.flatMap_append]; exact HO6.out
  ·
   intro q hq
   have hg2 : ElOwn w6 lo q := by
    rcases List.mem_append.1 hq with hq | hq
    ·
     exact ((HL4.out q hq).below HBW.out).grown HO.out HG6.out
    ·
     rw [List.mem_singleton] at hq
     subst hq
     exact ElOwn.grown (ElOwn.below ⟨HNN.out, HNX.out⟩ HBW.out) HO.out HG6.out
   exact ⟨hg2.n, hg2.o⟩
theorem Blk.code5 {W : World} {g : Nat} {t : TypeId} {a0 a1 a2 a3 a4 a5 a6 a7 a8 a9 a10 a11 a12 a13 a14 a15 : Value} (hk : Blk W g t #[a0, a1, a2, a3, a4, a5, a6, a7, a8, a9, a10, a11, a12, a13, a14, a15]) (v0 v1 v2 v3 v4 : Value) : Blk ((((((W).setCell ⟨g, 6, none⟩ v0).setCell ⟨g, 7, none⟩ v1).setCell ⟨g, 8, none⟩ v2).setCell ⟨g, 9, none⟩ v3).setCell ⟨g, 10, none⟩ v4) g t #[a0, a1, a2, a3, a4, a5, v0, v1, v2, v3, v4, a11, a12, a13, a14, a15] := by
 have h0 : Blk _ g t #[a0, a1, a2, a3, a4, a5, v0, a7, a8, a9, a10, a11, a12, a13, a14, a15] := hk.setJ 6 v0
 have h1 : Blk _ g t #[a0, a1, a2, a3, a4, a5, v0, v1, a8, a9, a10, a11, a12, a13, a14, a15] := h0.setJ 7 v1
 have h2 : Blk _ g t #[a0, a1, a2, a3, a4, a5, v0, v1, v2, a9, a10, a11, a12, a13, a14, a15] := h1.setJ 8 v2
 have h3 : Blk _ g t #[a0, a1, a2, a3, a4, a5, v0, v1, v2, v3, a10, a11, a12, a13, a14, a15] := h2.setJ 9 v3
 have h4 : Blk _ g t #[a0, a1, a2, a3, a4, a5, v0, v1, v2, v3, v4, a11, a12, a13, a14, a15] := h3.setJ 10 v4
 exact h4
def fx2 (p o : Nat) : Nat → Prop := fun g => g = p ∨ g = o
def MutR (v : Value) (E' : Em) (lo : Nat) (fq days : Int) (p y o : Nat) (w : World) (e : Ending) (w' : World) : Prop :=
 e = .returned v ∧ (∃ li, Ea9 w' lo li fq days p y o E') ∧ Kp w.heap.size (fx2 p o) w w' ∧ w'.cell? ⟨p, 13, none⟩ = w.cell? ⟨p, 13, none⟩
theorem c13 {w w' : World} {p : Nat} {T T' : TypeId} {cs cs' : Array Value} (h : Blk w p T cs) (h' : Blk w' p T' cs') (he : cs'[13]? = cs[13]?) : w'.cell? ⟨p, 13, none⟩ = w.cell? ⟨p, 13, none⟩ := (h'.cell 13).trans (he.trans (h.cell 13).symm)
section
variable {w w' W : World} {lo li : Nat} {fq days : Int} {p y o : Nat} {E : Em}
theorem Ea9.book (h : Ea9 W lo li fq days p y o E) {l : List Od} (hg : W.grownBy w' (some o)) (hb : Bk w' o l) : Ea9 w' lo li fq days p y o { E with bk := l } := by
 obtain ⟨K, h1, h2⟩ := h.ex
 obtain ⟨n1, n2, n3⟩ := h.diff
 obtain ⟨v, h6, _⟩ := h2.bk
 have ty : Ty (fun g => g = o) W := Ty.one h6 (by decide)
 have kp : Kp W.heap.size (fun g => g = o) W w' := Kp.grown hg (Nat.le_refl _) (fun k hk => by injection hk with hk; exact Or.inr hk.symm)
 obtain ⟨A, c, B, d, h5⟩ := h2.yr
 exact ⟨⟨K, h1.kp kp h1.lt n2, h2.tb.fx ty kp, h2.gy.fx ty kp, own_fx h2.nx ty kp (by decide), h2.ins.fx ty kp, ⟨A, c, B, d, h5.fx ty kp n3⟩, hb⟩, h.lp, h.ly, h.lo', h.li'⟩
theorem kp_one {g : Nat} {X : Nat → Prop} (hb : Below w.heap.size w W) (hg : W.grownBy w' (some g)) (hX : X g) : Kp w.heap.size X w w' :=
 (Kp.below hb (Nat.le_refl _)).trans (Kp.grown hg hb.size (fun k hk => by injection hk with hk; subst hk; exact Or.inr hX))
theorem EmRows.at_p {K : EmC} (h : EmRows W lo li fq days E K y o) {cs : Array Value} (hB : Blk W p 109 cs) (hg : W.grownBy w' (some p)) (n1 : p ≠ y) (n2 : p ≠ o) : EmRows w' lo li fq days E K y o :=
 h.fx (Ty.one hB (by decide)) (Kp.grown (X := fun g => g = p) hg (Nat.le_refl _) (fun k hk => by injection hk with hk; exact Or.inr hk.symm)) (fun he => n1 he.symm) (fun he => n2 he.symm)
end
theorem rorder_c (fq days : Int) (lo li p y o : Nat) (E : Em) (id pr am ra tt : Int) (w : World) (h : Ea9 w lo li fq days p y o E) (hn : E.bk.length ≤ 8) (hso : SortO E.bk) :
  Calls prog 40 #[.pointer (some ⟨p, 0, none⟩), .agg #[.int .i64 id, .int .i64 pr, .int .i64 am, .int .i64 ra, .int .i64 tt]] w (MutR (.int .i64 (addE E.bk ⟨id, pr, am, ra, tt, 0, 0⟩)) (ordEV E ⟨id, pr, am, ra, tt, 0, 0⟩) lo fq days p y o w) := by
 have HF0 := hid (Fr.start w)
 have HE := hid h
 obtain ⟨K, ns, nc, nk, nn, ni, hns, hnc, hnk, hnn, hni, hB, hR⟩ := h.letters
 have HB := hid hB
 have HRW := hid hR
 have HNS := hid hns
 have HNC := hid hnc
 have HNK := hid hnk
 have HNN := hid hnn
 have HNI := hid hni
 have HLT : Hid (p < w.heap.size) := hB.lt
 have KA := hid (fun W (hW : Below w.heap.size w W) => badd_c o E.bk id pr am ra tt W (hR.bk.t hW) (by omega) hso)
 unfold AddR at KA
 unfold MutR
 clear hns hnc hnk hnn hni hB hR
 clear h hso hn
 have HF1 := al9 ((HF0.out.al 37 #[.int .i64 id, .int .i64 pr, .int .i64 am, .int .i64 ra, .int .i64 tt]))
 clear HF0
 go_enter func40, ntmps40
 go_wp2_with fail
 generalize hwn : w.alloc (.cells #[.int .i64 id, .int .i64 pr, .int .i64 am, .int .i64 ra, .int .i64 tt] 37) = v1 at *
 try clear hwn
 have G : Hid (∀ W, Fr w W [(w.heap.size, 37, #[.int .i64 id, .int .i64 pr, .int .i64 am, .int .i64 ra, .int .i64 tt])] → Below w.heap.size w W ∧ (W.cell? ⟨w.heap.size, 0, none⟩ = some (.int .i64 id) ∧ W.cell? ⟨w.heap.size, 1, none⟩ = some (.int .i64 pr) ∧ W.cell? ⟨w.heap.size, 2, none⟩ = some (.int .i64 am) ∧ W.cell? ⟨w.heap.size, 3, none⟩ = some (.int .i64 ra) ∧ W.cell? ⟨w.heap.size, 4, none⟩ = some (.int .i64 tt) ∧ W.cell? ⟨p, 15, none⟩ = some (.pointer (some ⟨o, 0, none⟩)))) := fun W hW => ⟨hW.bl, (hW.b 0 rfl).cv 0 _ rfl, (hW.b 0 rfl).cv 1 _ rfl, (hW.b 0 rfl).cv 2 _ rfl, (hW.b 0 rfl).cv 3 _ rfl, (hW.b 0 rfl).cv 4 _ rfl, (HB.out.t hW.bl).cv 15 _ rfl⟩
 have HF2 := hid (HF1.out.dr)
 refine wG9 G 5 (by kernel_rfl) HF2.out (fun hH9 => ?_)
 refine tkG 0 (h := ?_)
 refine tkG 1 (h := ?_)
 refine tkG 2 (h := ?_)
 refine tkG 3 (h := ?_)
 refine tkG 4 (h := ?_)
 refine wL9 (i := 5) (by kernel_rfl) rfl (by decide) (fun Kx hK => ?_)
 go_simp
 go_at_call 74
 refine (KA.out _ HF2.out.bl).mono ?_
 rintro e w1 ⟨rfl, hbk, hg⟩
 have HBW := HF2
 refine hK.out _ _ ?_
 clear hK Kx
 try simp only [gA, gB, gC, pN, pU, pL, pZ, pS]
 refine wL9 (i := 6) (by kernel_rfl) rfl (by decide) (fun Kx hK => ?_)
 go_simp
 refine hK.out _ _ ?_
 clear hK Kx
 try simp only [gA, gB, gC, pN, pU, pL, pZ, pS]
 refine wD9 (by kernel_rfl) ?_ _
 clear G hH9
 try simp only [Exit.then]
 try simp only [gA, gB, gC, pN, pU, pL, pZ, pS]
 go_wp2_with fail
 refine bodyPost_ret (v := .int .i64 (addE E.bk ⟨id, pr, am, ra, tt, 0, 0⟩)) (by simp [results, results40, go_sem]) rfl ⟨rfl, ⟨li, (HE.out.below HBW.out.bl).book hg hbk⟩, kp_one HBW.out.bl hg (Or.inr rfl), c13 HB.out ((HB.out.t HBW.out.bl).grown hg (by intro he; injection he with he; first | exact HE.out.diff.2.1 he | exact HE.out.diff.2.1 he.symm)) rfl⟩
theorem rcancel_c (fq days : Int) (lo li p y o : Nat) (E : Em) (id : Int) (w : World) (h : Ea9 w lo li fq days p y o E) (hn : E.bk.length ≤ 8) :
  Calls prog 41 #[.pointer (some ⟨p, 0, none⟩), .int .i64 id] w (MutR (.int .i64 (canE E.bk id)) (canEV E id) lo fq days p y o w) := by
 have HF0 := hid (Fr.start w)
 have HE := hid h
 obtain ⟨K, ns, nc, nk, nn, ni, hns, hnc, hnk, hnn, hni, hB, hR⟩ := h.letters
 have HB := hid hB
 have HRW := hid hR
 have HNS := hid hns
 have HNC := hid hnc
 have HNK := hid hnk
 have HNN := hid hnn
 have HNI := hid hni
 have HLT : Hid (p < w.heap.size) := hB.lt
 have KA := hid (bcancel_c o E.bk id w hR.bk (by omega))
 unfold CanR at KA
 unfold MutR
 clear hns hnc hnk hnn hni hB hR
 clear h hn
 have d15 := HB.out.cv 15 (.pointer (some ⟨o, 0, none⟩)) rfl
 go_enter func41, ntmps41
 go_wp2_with fail
 refine KA.out.mono ?_
 rintro e w1 ⟨rfl, hbk, hg⟩
 go_wp2_with fail
 refine bodyPost_ret (v := .int .i64 (canE E.bk id)) (by simp [results, results41, go_sem]) rfl ⟨rfl, ⟨li, HE.out.book hg hbk⟩, kp_one (b0 w) hg (Or.inr rfl), c13 HB.out (HB.out.grown hg (by intro he; injection he with he; first | exact HE.out.diff.2.1 he | exact HE.out.diff.2.1 he.symm)) rfl⟩
theorem rprotect_c (fq days : Int) (lo li p y o : Nat) (E : Em) (x : Int) (w : World) (h : Ea9 w lo li fq days p y o E) (re : Int) (E' : Em) (he : Hid (re = protE x)) (h1 : Hid (re = 0 → E' = protV E x)) (h2 : Hid (re ≠ 0 → E' = E)) :
  Calls prog 42 #[.pointer (some ⟨p, 0, none⟩), .int .i64 x] w (MutR (.int .i64 re) E' lo fq days p y o w) := by
 have HF0 := hid (Fr.start w)
 have HE := hid h
 obtain ⟨K, ns, nc, nk, nn, ni, hns, hnc, hnk, hnn, hni, hB, hR⟩ := h.letters
 have HB := hid hB
 have HRW := hid hR
 have HNS := hid hns
 have HNC := hid hnc
 have HNK := hid hnk
 have HNN := hid hnn
 have HNI := hid hni
 have HLT : Hid (p < w.heap.size) := hB.lt
 obtain ⟨n1, n2, n3⟩ := h.diff
 have HN1 := hid n1
 have HN2 := hid n2
 unfold MutR
 clear hns hnc hnk hnn hni hB hR
 clear h n1 n2 n3
 go_enter func42, ntmps42
 go_wp2_with fail
 refine (r1z _ _ _ x _ (by simp)).mono ?_
 rintro e w1 ⟨rfl, rfl⟩
 have HF := hid (bz1 w (.cells #[.int .i64 x] 2))
 by_cases h0 : mrB x = true
 case neg =>
  have t0 : mrB x = false := by simpa using h0
  have HE0 : Hid (re = 10) := he.out.trans (by unfold protE; rw [if_neg h0])
  go_wp2_with fail
  refine bodyPost_ret (v := .int .i64 10) (by simp [results, results42, go_sem]) rfl ⟨by rw [HE0.out], ⟨li, ?_⟩, Kp.below HF.out (Nat.le_refl _), c13 HB.out (HB.out.t HF.out) rfl⟩
  rw [h2.out (by rw [HE0.out]; decide)]
  exact HE.out.below HF.out
 by_cases h3 : x < 0
 case pos =>
  have t1 : decide (x < 0) = true := by simpa using h3
  have HE0 : Hid (re = 1) := he.out.trans (by unfold protE; rw [if_pos h0, if_pos h3])
  go_wp2_with fail
  refine bodyPost_ret (v := .int .i64 1) (by simp [results, results42, go_sem]) rfl ⟨by rw [HE0.out], ⟨li, ?_⟩, Kp.below HF.out (Nat.le_refl _), c13 HB.out (HB.out.t HF.out) rfl⟩
  rw [h2.out (by rw [HE0.out]; decide)]
  exact HE.out.below HF.out
 have t1 : decide (x < 0) = false := by simpa using h3
 have HE0 : Hid (re = 0) := he.out.trans (by unfold protE; rw [if_pos h0, if_neg h3])
 have hbk := HB.out.t HF.out
 have d11 := hbk.cv 11 (.int .i64 E.prot) rfl
 have f11 := hbk.free 11
 have HBK := hid hbk
 clear hbk
 go_wp2_with fail
 refine bodyPost_ret (v := .int .i64 0) (by simp [results, results42, go_sem]) rfl ⟨by rw [HE0.out], ⟨li, ?_⟩, ?_, ?_⟩
 ·
  rw [h1.out HE0.out]
  have hb := HBK.out.setJ 11 (.int .i64 x)
  refine ⟨⟨K, ?_, ?_⟩, HE.out.lp, HE.out.ly, HE.out.lo', HE.out.li'⟩
  ·
   unfold emC protV
   dsimp only
   rw [← HNS.out, ← HNC.out, ← HNK.out, ← HNN.out, ← HNI.out]
   exact hb
  ·
   obtain ⟨a1, a2, a3, a4, a5, a6⟩ := (HRW.out.below HF.out).at_p HBK.out (gJ9 _ p 11 (.int .i64 x)) HN1.out HN2.out
   exact ⟨a1, a2, a3, a4, a5, a6⟩
 ·
  exact kp_one HF.out (gJ9 _ p 11 (.int .i64 x)) (Or.inl rfl)
 ·
  exact c13 HB.out (HBK.out.setJ 11 (.int .i64 x)) rfl
theorem rcodeset_c (fq days : Int) (lo li p y o : Nat) (E : Em) (s kd a f : Int) (al : Bool) (w : World) (h : Ea9 w lo li fq days p y o E) (hk : EmOK fq days E) (re : Int) (E' : Em) (he : Hid (re = codeE E (cntI fq days) ⟨s, kd, a, f, al⟩)) (h1 : Hid (re = 0 → E' = codeV E ⟨s, kd, a, f, al⟩)) (h2 : Hid (re ≠ 0 → E' = E)) :
  Calls prog 39 #[.pointer (some ⟨p, 0, none⟩), .agg #[.int .i64 s, .int .i64 kd, .int .i64 a, .int .i64 f, .bool al]] w (MutR (.int .i64 re) E' lo fq days p y o w) := by
 have HF0 := hid (Fr.start w)
 have HE := hid h
 obtain ⟨K, ns, nc, nk, nn, ni, hns, hnc, hnk, hnn, hni, hB, hR⟩ := h.letters
 have HB := hid hB
 have HRW := hid hR
 have HNS := hid hns
 have HNC := hid hnc
 have HNK := hid hnk
 have HNN := hid hnn
 have HNI := hid hni
 have HLT : Hid (p < w.heap.size) := hB.lt
 obtain ⟨n1, n2, n3⟩ := h.diff
 have HN1 := hid n1
 have HN2 := hid n2
 obtain ⟨E1, hE1⟩ : ∃ E1, E1 = openE E (cntI fq days) := ⟨_, rfl⟩
 obtain ⟨E2, hE2⟩ : ∃ E2, E2 = fitE E.tb.sch ⟨s, kd, a, f, al⟩ := ⟨_, rfl⟩
 have K1 := hid (fun W (hW : Below w.heap.size w W) => ropen_c fq days lo li p y o E W (h.below hW) hk)
 rw [← hE1] at K1
 unfold ValB at K1
 have K2 := hid (fun W (hW : Below w.heap.size w W) => tfits_c E.tb.sch K.As K.Ac K.Ak ns K.cs nc K.cc nk K.ck E.tb.lim E.tb.rnd s kd a f al W (by rw [hns]; exact hR.tb.view.s.below hW) E2 hE2)
 have H1 : Hid (re = sqz E1 E2) := he.out.trans (by unfold codeE; rw [hE1, hE2])
 unfold MutR
 clear hns hnc hnk hnn hni hB hR
 clear h hk n1 n2 n3 he hE1 hE2
 have HF1 := al9 ((HF0.out.al 28 #[.int .i64 s, .int .i64 kd, .int .i64 a, .int .i64 f, .bool al]))
 clear HF0
 go_enter func39, ntmps39
 go_wp2_with fail
 refine (K1.out _ HF1.out.bl).mono ?_
 rintro e W1 ⟨rfl, hb⟩
 have HF2 := hid (HF1.out.ca hb)
 clear hb HF1
 by_cases h0 : E1 = 0
 case neg =>
  have tr : (E1 != 0) = true := by simpa using h0
  have HE0 : Hid (re = E1) := H1.out.trans (sN9 h0)
  have HN0 : Hid (E1 ≠ 0) := h0
  clear h0
  go_wp2_with fail
  refine bodyPost_ret (v := .int .i64 E1) (by simp [results, results39, go_sem]) rfl ⟨by rw [HE0.out], ⟨li, ?_⟩, Kp.below HF2.out.bl (Nat.le_refl _), c13 HB.out (HB.out.t HF2.out.bl) rfl⟩
  rw [h2.out (by rw [HE0.out]; exact HN0.out)]
  exact HE.out.below HF2.out.bl
 have H2 := hid (H1.out.trans (sE9 h0))
 subst h0
 go_wp2_with fail
 generalize hwn : W1 = v2 at *
 try clear hwn
 have G : Hid (∀ W, Fr w W [(w.heap.size, 28, #[.int .i64 s, .int .i64 kd, .int .i64 a, .int .i64 f, .bool al])] → Below w.heap.size w W ∧ (W.cell? ⟨w.heap.size, 0, none⟩ = some (.int .i64 s) ∧ W.cell? ⟨w.heap.size, 1, none⟩ = some (.int .i64 kd) ∧ W.cell? ⟨w.heap.size, 2, none⟩ = some (.int .i64 a) ∧ W.cell? ⟨w.heap.size, 3, none⟩ = some (.int .i64 f) ∧ W.cell? ⟨w.heap.size, 4, none⟩ = some (.bool al) ∧ W.cell? ⟨p, 0, none⟩ = some (.slice K.As ns K.cs) ∧ W.cell? ⟨p, 1, none⟩ = some (.slice K.Ac nc K.cc) ∧ W.cell? ⟨p, 2, none⟩ = some (.slice K.Ak nk K.ck) ∧ W.cell? ⟨p, 3, none⟩ = some (.int .i64 E.tb.lim) ∧ W.cell? ⟨p, 4, none⟩ = some (.int .i64 E.tb.rnd))) := fun W hW => ⟨hW.bl, (hW.b 0 rfl).cv 0 _ rfl, (hW.b 0 rfl).cv 1 _ rfl, (hW.b 0 rfl).cv 2 _ rfl, (hW.b 0 rfl).cv 3 _ rfl, (hW.b 0 rfl).cv 4 _ rfl, (HB.out.t hW.bl).cv 0 _ rfl, (HB.out.t hW.bl).cv 1 _ rfl, (HB.out.t hW.bl).cv 2 _ rfl, (HB.out.t hW.bl).cv 3 _ rfl, (HB.out.t hW.bl).cv 4 _ rfl⟩
 have HF3 := hid (HF2.out.dr)
 refine wG9 G 7 (by kernel_rfl) HF3.out (fun hH9 => ?_)
 refine tkG 0 (h := ?_)
 refine tkG 1 (h := ?_)
 refine tkG 2 (h := ?_)
 refine tkG 3 (h := ?_)
 refine tkG 4 (h := ?_)
 refine tkO 5 (h := fun Kx hK => ?_)
 go_simp
 go_at_call 65
 refine (K2.out _ HF3.out.bl).mono ?_
 rintro e W3 ⟨rfl, hb⟩
 have HF4 := hid (HF3.out.ca hb)
 clear hb
 refine shG hK (G.out _ HF4.out) (h := fun hH9 => ?_)
 clear hK Kx
 refine tkG 6 (h := ?_)
 refine wD9 (by kernel_rfl) ?_ _
 clear G hH9
 try simp only [Exit.then]
 by_cases h0 : E2 = 0
 case neg =>
  have tr : (E2 != 0) = true := by simpa using h0
  have HE0 : Hid (re = E2) := H2.out
  have HN0 : Hid (E2 ≠ 0) := h0
  clear h0
  go_wp2_with fail
  refine bodyPost_ret (v := .int .i64 E2) (by simp [results, results39, go_sem]) rfl ⟨by rw [HE0.out], ⟨li, ?_⟩, Kp.below HF4.out.bl (Nat.le_refl _), c13 HB.out (HB.out.t HF4.out.bl) rfl⟩
  rw [h2.out (by rw [HE0.out]; exact HN0.out)]
  exact HE.out.below HF4.out.bl
 have H3 := hid (H2.out.trans h0)
 subst h0
 have HBK := hid (HB.out.t HF4.out.bl)
 have HF := hid HF4.out.bl
 obtain ⟨c0_0, c0_1, c0_2, c0_3, c0_4⟩ := (HF4.out.b 0 rfl).q5
 have qz := HBK.out
 have p6 := qz.cv 6 (.int .i64 E.c.s) rfl
 have q6 := qz.free 6
 have p7 := qz.cv 7 (.int .i64 E.c.k) rfl
 have q7 := qz.free 7
 have p8 := qz.cv 8 (.int .i64 E.c.a) rfl
 have q8 := qz.free 8
 have p9 := qz.cv 9 (.int .i64 E.c.f) rfl
 have q9 := qz.free 9
 have p10 := qz.cv 10 (.bool E.c.al) rfl
 have q10 := qz.free 10
 clear qz
 go_wp2_with fail
 have hgr : World.grownBy _ _ (some p) := sg9 p [.int .i64 s, .int .i64 kd, .int .i64 a, .int .i64 f, .bool al] W3 6
 have hb := HBK.out.code5 (.int .i64 s) (.int .i64 kd) (.int .i64 a) (.int .i64 f) (.bool al)
 refine bodyPost_ret (v := .int .i64 0) (by simp [results, results39, go_sem]) rfl ⟨by rw [H3.out], ⟨li, ?_⟩, ?_, ?_⟩
 ·
  rw [h1.out H3.out]
  refine ⟨⟨K, ?_, ?_⟩, HE.out.lp, HE.out.ly, HE.out.lo', HE.out.li'⟩
  ·
   unfold emC codeV
   dsimp only
   rw [← HNS.out, ← HNC.out, ← HNK.out, ← HNN.out, ← HNI.out]
   exact hb
  ·
   obtain ⟨a1, a2, a3, a4, a5, a6⟩ := (HRW.out.below HF.out).at_p HBK.out hgr HN1.out HN2.out
   exact ⟨a1, a2, a3, a4, a5, a6⟩
 ·
  exact kp_one HF.out hgr (Or.inl rfl)
 ·
  exact c13 HB.out hb rfl
def GivesEl (n : Nat) (l : List El) (w : World) (e : Ending) (w' : World) : Prop := (∃ v, e = .returned v ∧ n = l.length ∧ w'.ownsRow w.heap.size 98 3 v n (l.flatMap elC)) ∧ Below w.heap.size w w'
theorem egrow_c (n : Nat) (w : World) (hn : n ≤ 1000000) : Calls prog 106 #[.slice none 0 0, .int .i64 n] w (GivesEl 0 [] w) := by
 by_cases h0 : n = 0
 ·
  subst h0
  go_enter func106, ntmps106
  go_wp2_with fail
  go_ret
  exact ⟨⟨_, rfl, rfl, World.ownsRow_nil _ _ _ _⟩, b0 _⟩
 ·
  obtain ⟨v1, w1, hr1, ho1, hg1⟩ := run_appZ_own (P := prog) w 35 3 35 98 _ 3 32 .i64 .i64 underlying35 underlying3 info_el rfl (by decide) none 0 0 [] ⟨rfl, fun h => absurd h (by omega)⟩ n (by omega) (by omega) (by omega) (by omega)
  obtain ⟨g1, cap1, rfl, hb1, hlt1, hcap1, ho1'⟩ := own_form ho1 (by omega)
  have HR1 := hid hr1
  have HB1 : Hid (Below w.heap.size w w1) := below_grown (b0 _) hg1 (Nat.le_refl _) (by simp)
  have HO1 : Hid (w1.ownsRow w.heap.size 98 3 (.slice (some ⟨g1, 0, none⟩) 0 cap1) 0 []) := by
   rw [Nat.zero_add] at ho1'
   obtain ⟨_, h2 | ⟨g', cap', cur, hv, hb, hg, hle2, hm, hsz, ht⟩⟩ := ho1'
   ·
    cases h2.1
   ·
    injection hv with hA _ hc
    injection hA with hA
    injection hA with hg' _
    subst hg'; subst hc
    exact ⟨rfl, .inr ⟨g1, cap1, cur, rfl, hb, hg, Nat.zero_le _, hm, hsz, by simp⟩⟩
  have v : decide ((0 : Int) < (n : Int)) = true := by simp; omega
  clear ho1 ho1' hr1 hg1
  go_enter func106, ntmps106
  go_wp2_with (at_builtin; refine wpList_appR _ rfl _ _ 35 3 rfl _ _ rfl rfl _ w1 HR1.out ?_)
  go_ret
  exact ⟨⟨_, rfl, rfl, HO1.out⟩, HB1.out⟩
theorem econcat_c (h : Nat) (A1 A2 : Option Addr) (n1 c1 n2 c2 : Nat) (l1 l2 : List El) (w : World) (hh : Blk w h 35 #[.slice A1 n1 c1, .slice A2 n2 c2]) (hs1 : SrcAt w A1 n1 3 (l1.flatMap elC)) (hs2 : SrcAt w A2 n2 3 (l2.flatMap elC))
  (e1 : n1 = l1.length) (e2 : n2 = l2.length) (hn : n1 + n2 ≤ 1000000) (lr : List El) (hlr : Hid (lr = l1 ++ l2)) :
  Calls prog 69 #[.slice (some ⟨h, 0, none⟩) 2 2] w (GivesEl (n1 + n2) lr w) := by
 have HS1 := hid hs1
 have HS2 := hid hs2
 have HH := hid hh
 have HE : Hid (n1 + n2 = lr.length ∧ lr.flatMap elC = l1.flatMap elC ++ l2.flatMap elC) := by unfold Hid; rw [hlr.out, List.length_append, List.flatMap_append]; exact ⟨by omega, rfl⟩
 obtain ⟨d0, d1⟩ : w.cell? ⟨h, 0, none⟩ = some (.slice A1 n1 c1) ∧ w.cell? ⟨h, 1, none⟩ = some (.slice A2 n2 c2) := ⟨hh.cell 0, hh.cell 1⟩
 have KG := hid (fun W => egrow_c (n1 + n2) W hn)
 clear hs1 hs2 hh e1 e2
 go_enter func69, ntmps69
 go_wp2_with fail
 go_loop [3, 11] (fun z i => (i = .int .i64 0 ∧ z = .int .i64 0) ∨ (i = .int .i64 1 ∧ z = .int .i64 n1) ∨ (i = .int .i64 2 ∧ z = .int .i64 (n1 + n2 : Nat))) (fun _ i => 2 - (intOf i).toNat)
 case atStart => exact Or.inl ⟨rfl, rfl⟩
 case round =>
  rcases hrel with ⟨rfl, rfl⟩ | ⟨rfl, rfl⟩ | ⟨rfl, rfl⟩
  ·
   have v : ¬ ((n1 : Int) < 0) := by omega
   go_wp2_with fail
   go_round
   case rel => exact Or.inr (Or.inl ⟨rfl, rfl⟩)
   case measure => simp [intOf]
  ·
   have v : ¬ ((n1 : Int) + (n2 : Int) < 0) := by omega
   go_wp2_with fail
   go_round
   case rel => exact Or.inr (Or.inr ⟨rfl, by go_num⟩)
   case measure => simp [intOf]
  ·
   clear d0 d1
   go_wp2_with fail
   refine (KG.out _).mono ?_
   rintro e w1 ⟨⟨v1, rfl, ho1⟩, hb1⟩
   have HO1 := hid ho1.2
   clear ho1
   go_wp2_with fail
   go_loopw [6, 27] (fun v i wr => ((i = .int .i64 0 ∧ wr.ownsRow w.heap.size 98 3 v 0 []) ∨ (i = .int .i64 1 ∧ wr.ownsRow w.heap.size 98 3 v n1 (l1.flatMap elC)) ∨ (i = .int .i64 2 ∧ wr.ownsRow w.heap.size 98 3 v (n1 + n2) (l1.flatMap elC ++ l2.flatMap elC))) ∧ Below w.heap.size w wr) (fun _ i _ => 2 - (intOf i).toNat)
   case atStart => exact ⟨Or.inl ⟨rfl, HO1.out⟩, hb1⟩
   case round =>
    obtain ⟨⟨rfl, ho⟩ | ⟨rfl, ho⟩ | ⟨rfl, ho⟩, hbl⟩ := hrel
    ·
     have HO := hid ho
     have hsz := hbl.size
     have hhh := HH.out.t hbl
     obtain ⟨d0, d1⟩ : wr.cell? ⟨h, 0, none⟩ = some (.slice A1 n1 c1) ∧ wr.cell? ⟨h, 1, none⟩ = some (.slice A2 n2 c2) := ⟨hhh.cell 0, hhh.cell 1⟩
     have HSR := hid (HS1.out.below hbl)
     clear ho hhh
     go_wp2_with (at_builtin; refine wn9 _ rfl _ _ 35 rfl 98 _ 3 32 underlying35 info_el rfl (by decide) rfl HO.out _ _ _ _ rfl HSR.out (all_one el_one _) (by omega) (by omega) (by omega) ?_; intro v' w6 ho' hg)
     go_roundw
     case rel => exact ⟨Or.inr (Or.inl ⟨rfl, by simpa using ho'⟩), below_app hbl HO.out hg hsz (Nat.le_refl _)⟩
     case measure => simp [intOf]
    ·
     have HO := hid ho
     have hsz := hbl.size
     have hhh := HH.out.t hbl
     obtain ⟨d0, d1⟩ : wr.cell? ⟨h, 0, none⟩ = some (.slice A1 n1 c1) ∧ wr.cell? ⟨h, 1, none⟩ = some (.slice A2 n2 c2) := ⟨hhh.cell 0, hhh.cell 1⟩
     have HSR := hid (HS2.out.below hbl)
     clear ho hhh
     go_wp2_with (at_builtin; refine wn9 _ rfl _ _ 35 rfl 98 _ 3 32 underlying35 info_el rfl (by decide) rfl HO.out _ _ _ _ rfl HSR.out (all_one el_one _) (by omega) (by omega) (by omega) ?_; intro v' w6 ho' hg)
     go_roundw
     case rel => exact ⟨Or.inr (Or.inr ⟨rfl, ho'⟩), below_app hbl HO.out hg hsz (Nat.le_refl _)⟩
     case measure => simp [intOf]
    ·
     have HO := hid ho
     clear ho
     go_wp2_with fail
     go_ret
     exact ⟨⟨_, rfl, HE.out.1, by rw [HE.out.2]; exact HO.out⟩, hbl⟩
theorem rpay_c (fq days : Int) (lo li p y o : Nat) (E : Em) (A : Option Addr) (m c : Nat) (l : List El) (w : World) (h : Ea9 w lo li fq days p y o E) (hk : EmOK fq days E) (hl : ElSl w A m l) (hm : m ≤ 1000) (re : Int) (E' : Em) (he : Hid (re = payE E (cntI fq days) l)) (h1 : Hid (re = 0 → E' = payV E l)) (h2 : Hid (re ≠ 0 → E' = E)) :
  Calls prog 34 #[.pointer (some ⟨p, 0, none⟩), .slice A m c] w (MutR (.int .i64 re) E' lo fq days p y o w) := by
 have HF0 := hid (Fr.start w)
 have HE := hid h
 obtain ⟨K, ns, nc, nk, nn, ni, hns, hnc, hnk, hnn, hni, hB, hR⟩ := h.letters
 have HB := hid hB
 have HRW := hid hR
 have HNS := hid hns
 have HNC := hid hnc
 have HNK := hid hnk
 have HNN := hid hnn
 have HNI := hid hni
 have HLT : Hid (p < w.heap.size) := hB.lt
 obtain ⟨n1, n2, n3⟩ := h.diff
 have HN1 := hid n1
 have HN2 := hid n2
 obtain ⟨E1, hE1⟩ : ∃ E1, E1 = openE E (cntI fq days) := ⟨_, rfl⟩
 obtain ⟨al, hal⟩ : ∃ al, al = E.next ++ l := ⟨_, rfl⟩
 obtain ⟨E2, hE2⟩ : ∃ E2, E2 = kAz E.tb.kds al (nn + m) := ⟨_, rfl⟩
 have hlen : al.length = nn + m := by rw [hal, List.length_append, ← hnn, ← hl.1]
 have K1 := hid (fun W (hW : Below w.heap.size w W) => ropen_c fq days lo li p y o E W (h.below hW) hk)
 rw [← hE1] at K1
 unfold ValB at K1
 have hnx := hk.nx
 have KC := hid (fun W (hW : Below w.heap.size w W) (v : Nat) (hh : Blk W v 35 #[.slice K.An nn K.cn, .slice A m c]) => econcat_c v K.An A nn K.cn m c E.next l W hh (own_src (by rw [hnn]; exact oB9 hR.nx hW)) ((hl.below hW).src elC_len) hnn hl.1 (by omega) al hal)
 unfold GivesEl at KC
 have KK := hid (fun W (hW : Below w.heap.size w W) (A6 : Option Addr) (c6 : Nat) (hs : ElSl W A6 (nn + m) al) => eall_c E.tb.kds K.As K.Ac K.Ak ns K.cs nc K.cc nk K.ck E.tb.lim E.tb.rnd A6 (nn + m) c6 al W (by rw [hnk]; exact hR.tb.view.k.below hW) hs E2 hE2)
 have H1 : Hid (re = sqz E1 E2) := he.out.trans (by unfold payE; rw [hE1, hE2, ← hal, hlen])
 have HAL := hid hal
 have HLE := hid hlen
 have HLO : Hid (lo ≤ w.heap.size) := by have := h.lp; have := HLT.out; unfold Hid; omega
 unfold MutR
 clear hns hnc hnk hnn hni hB hR
 clear h hk hl hm n1 n2 n3 he hE1 hE2 hal hlen hnx
 go_enter func34, ntmps34
 go_wp2_with fail
 refine (K1.out _ HF0.out.bl).mono ?_
 rintro e W1 ⟨rfl, hb⟩
 have HF1 := hid (HF0.out.ca hb)
 clear hb HF0
 by_cases h0 : E1 = 0
 case neg =>
  have tr : (E1 != 0) = true := by simpa using h0
  have HE0 : Hid (re = E1) := H1.out.trans (sN9 h0)
  have HN0 : Hid (E1 ≠ 0) := h0
  clear h0
  go_wp2_with fail
  refine bodyPost_ret (v := .int .i64 E1) (by simp [results, results34, go_sem]) rfl ⟨by rw [HE0.out], ⟨li, ?_⟩, Kp.below HF1.out.bl (Nat.le_refl _), c13 HB.out (HB.out.t HF1.out.bl) rfl⟩
  rw [h2.out (by rw [HE0.out]; exact HN0.out)]
  exact HE.out.below HF1.out.bl
 have H2 := hid (H1.out.trans (sE9 h0))
 subst h0
 have dd12 := (HB.out.t HF1.out.bl).cv 12 (.slice K.An nn K.cn) rfl
 go_wp2_with fail
 have HF2 := al9 ((HF1.out.al 35 #[.slice K.An nn K.cn, .slice A m c]))
 clear HF1
 refine (KC.out _ HF2.out.bl _ (HF2.out.b 0 rfl)).mono ?_
 rintro e W2 ⟨⟨v6, rfl, hn6, ho6⟩, hb⟩
 obtain ⟨A6, c6, rfl⟩ := oL9 ho6
 have HO := hid (oM9 ho6 (Nat.le_trans HLO.out HF2.out.bl.size))
 clear ho6 hn6
 clear dd12
 have HF5 := hid (HF2.out.ca hb)
 clear hb HF2
 have HSE : Hid (ElSl W2 A6 (nn + m) al) := el_row HO.out HLE.out.symm
 have qz := HB.out.t HF5.out.bl
 have dd0 := qz.cv 0 (.slice K.As ns K.cs) rfl
 have dd1 := qz.cv 1 (.slice K.Ac nc K.cc) rfl
 have dd2 := qz.cv 2 (.slice K.Ak nk K.ck) rfl
 have dd3 := qz.cv 3 (.int .i64 E.tb.lim) rfl
 have dd4 := qz.cv 4 (.int .i64 E.tb.rnd) rfl
 clear qz
 go_wp2_with fail
 refine (KK.out _ HF5.out.bl A6 c6 HSE.out).mono ?_
 rintro e W3 ⟨rfl, hb⟩
 clear dd0 dd1 dd2 dd3 dd4
 replace HO := hid (oB9 HO.out hb)
 have HF3 := hid (HF5.out.ca hb)
 clear hb HF5
 by_cases h0 : E2 = 0
 case neg =>
  have tr : (E2 != 0) = true := by simpa using h0
  have HE0 : Hid (re = E2) := H2.out
  have HN0 : Hid (E2 ≠ 0) := h0
  clear h0
  go_wp2_with fail
  refine bodyPost_ret (v := .int .i64 E2) (by simp [results, results34, go_sem]) rfl ⟨by rw [HE0.out], ⟨li, ?_⟩, Kp.below HF3.out.bl (Nat.le_refl _), c13 HB.out (HB.out.t HF3.out.bl) rfl⟩
  rw [h2.out (by rw [HE0.out]; exact HN0.out)]
  exact HE.out.below HF3.out.bl
 have H3 := hid (H2.out.trans h0)
 subst h0
 have HBK := hid (HB.out.t HF3.out.bl)
 have HF := hid HF3.out.bl
 have p12 := HBK.out.cv 12 (.slice K.An nn K.cn) rfl
 have q12 := HBK.out.free 12
 go_wp2_with fail
 have hgr := gJ9 W3 p 12 (.slice A6 (nn + m) c6)
 have ty := Ty.one HBK.out (by decide : mtB 109 = true)
 have kp : Kp W3.heap.size (fun g => g = p) W3 (W3.setCell ⟨p, 12, none⟩ (.slice A6 (nn + m) c6)) := Kp.grown hgr (Nat.le_refl _) (fun k hk => by injection hk with hk; exact Or.inr hk.symm)
 refine bodyPost_ret (v := .int .i64 0) (by simp [results, results34, go_sem]) rfl ⟨by rw [H3.out], ⟨li, ?_⟩, ?_, ?_⟩
 ·
  rw [h1.out H3.out]
  have hb := HBK.out.setJ 12 (.slice A6 (nn + m) c6)
  refine ⟨⟨⟨K.As, K.cs, K.Ac, K.cc, K.Ak, K.ck, K.gy, A6, c6, K.Ai, K.ci⟩, ?_, ?_⟩, HE.out.lp, HE.out.ly, HE.out.lo', HE.out.li'⟩
  ·
   unfold emC payV
   dsimp only
   rw [← HNS.out, ← HNC.out, ← HNK.out, ← HNI.out, ← HAL.out, HLE.out]
   exact hb
  ·
   obtain ⟨a1, a2, a3, a4, a5, a6⟩ := (HRW.out.below HF.out).at_p HBK.out hgr HN1.out HN2.out
   refine ⟨a1, a2, ?_, a4, a5, a6⟩
   show World.ownsRow _ lo 98 3 (.slice A6 (E.next ++ l).length c6) (E.next ++ l).length ((E.next ++ l).flatMap elC)
   rw [← HAL.out, HLE.out]
   exact own_fx HO.out ty kp (by decide)
 ·
  exact kp_one HF.out hgr (Or.inl rfl)
 ·
  exact c13 HB.out (HBK.out.setJ 12 (.slice A6 (nn + m) c6)) rfl
theorem sort_same {l m : List Od} (hl : m.length = l.length) (h : ∀ k, k < l.length → (m.getD k od0).id = (l.getD k od0).id ∧ (m.getD k od0).pr = (l.getD k od0).pr) (hs : SortO l) : SortO m := by
 unfold SortO at *
 rw [List.pairwise_iff_getElem] at *
 intro i j hi hj hij
 have h1 := hs i j (by omega) (by omega) hij
 have a := h i (by omega)
 have b := h j (by omega)
 rw [gaz m od0 hi, gaz l od0 (by omega)] at a
 rw [gaz m od0 hj, gaz l od0 (by omega)] at b
 rw [befI_lt] at *
 omega
theorem GoodA.nil : GoodA [] := ⟨by decide, List.Pairwise.nil, fun z hz => by simp at hz, fun z hz => by simp at hz⟩
theorem GoodA.add {l : List Od} {z : Od} (h : GoodA l) (hs : SortO l) (hz : z.tk = 0 ∧ z.ar = 0) : GoodA (addL l z) ∧ SortO (addL l z) := by
 unfold addL
 split
 ·
  rename_i he
  obtain ⟨h1, h2, h3⟩ := addE_zero he
  have hid : ∀ x ∈ l, x.id ≠ z.id := fun x hx e => h2 (at_mem.2 ⟨x, hx, e⟩)
  have hp := insO_perm l z
  refine ⟨⟨?_, ids_perm hp.symm (List.pairwise_cons.2 ⟨fun x hx e => hid x hx e.symm, h.ids⟩), fun x hx => ?_, fun x hx => ?_⟩, insO_sorted hs hid⟩
  ·
   rw [insO_len]; have := h.len; omega
  ·
   rcases List.mem_cons.1 (hp.mem_iff.1 hx) with rfl | hx
   ·
    exact ⟨orE_ok h1, by omega, by omega⟩
   ·
    exact h.ok x hx
  ·
   rcases List.mem_cons.1 (hp.mem_iff.1 hx) with rfl | hx
   ·
    intro ht; omega
   ·
    exact h.tot x hx
 ·
  exact ⟨h, hs⟩
theorem cut_sub (l : List Od) (id : Int) : (cutO l id).Sublist l := by
 unfold cutO
 have h := List.Sublist.append (List.Sublist.refl (l.take (atO l id))) (List.drop_sublist_drop_left l (Nat.le_succ (atO l id)))
 rwa [List.take_append_drop] at h
theorem GoodA.cut {l : List Od} (h : GoodA l) (hs : SortO l) (id : Int) : GoodA (cutO l id) ∧ SortO (cutO l id) := by
 have hb := cut_sub l id
 exact ⟨⟨Nat.le_trans hb.length_le h.len, h.ids.sublist hb, fun z hz => h.ok z (hb.subset hz), fun z hz => h.tot z (hb.subset hz)⟩, hs.sublist hb⟩
theorem bookE_zero {l : List Od} {net prot : Int} (h : bookE l net prot = 0) : sVz l net prot = 0 ∧ tookE l (tkL l net prot l.length) = 0 := by
 obtain ⟨h1, h2⟩ := sZ9 h
 refine ⟨h1, ?_⟩
 split at h2
 ·
  assumption
 ·
  cases h2
theorem GoodA.served {l : List Od} {net prot : Int} (h : GoodA l) (hs : SortO l) (hb : bookE l net prot = 0) : GoodA (tookL l (tkL l net prot l.length)) ∧ SortO (tookL l (tkL l net prot l.length)) := by
 obtain ⟨h1, h2⟩ := bookE_zero hb
 exact ⟨h.per h1 h2, sort_same (tookL_len _ _) (fun k hk => ⟨(per_od h h1 h2 hk).i.1, (per_od h h1 h2 hk).i.2.1⟩) hs⟩
theorem openE_zero {E : Em} {cnt : Int} (h : openE E cnt = 0) : ¬ (E.ins.length : Int) = cnt := by
 intro h1
 unfold openE at h
 rw [if_pos h1] at h
 cases h
theorem chkA_len {kds : List Kd} {L : List El} {n : Nat} (h : kAz kds L n = 0) : n ≤ 32 := by
 unfold kAz at h
 split at h
 ·
  cases h
 ·
  omega
theorem cntI_nn {fq days : Int} (hd : 0 ≤ days) : 0 ≤ cntI fq days := by unfold cntI; split <;> (try split) <;> (try split) <;> omega
section
variable {fq days : Int} {E : Em}
theorem EmOK.pay (hk : EmOK fq days E) {l : List El} (h : payE E (cntI fq days) l = 0) : EmOK fq days (payV E l) := by
 obtain ⟨h1, h2⟩ := sZ9 h
 have := chkA_len h2
 exact { hk with nx := by show (E.next ++ l).length ≤ 1000; omega }
theorem EmOK.code (hk : EmOK fq days E) (c : Cd) : EmOK fq days (codeV E c) := { hk with }
theorem EmOK.prot (hk : EmOK fq days E) (x : Int) : EmOK fq days (protV E x) := { hk with }
theorem EmOK.ord (hk : EmOK fq days E) {z : Od} (hz : z.tk = 0 ∧ z.ar = 0) : EmOK fq days (ordEV E z) :=
 { hk with bk := (hk.bk.add hk.so hz).1, so := (hk.bk.add hk.so hz).2 }
theorem EmOK.can (hk : EmOK fq days E) (id : Int) : EmOK fq days (canEV E id) := by
 unfold canEV
 by_cases h : canE E.bk id = 0
 ·
  rw [if_pos h]; exact { hk with bk := (hk.bk.cut hk.so id).1, so := (hk.bk.cut hk.so id).2 }
 ·
  rw [if_neg h]; exact { hk with }
theorem putIn_len (l : List In) (k : Int) (els : List El) : (putIn l k els).length = l.length := by simp [putIn]
theorem EmOK.repl (hk : EmOK fq days E) {k : Int} {els : List El} (h : replE E (nIz fq) (cntI fq days) k els = 0) : EmOK fq days (replV E k els) := by
 unfold replE at h
 split at h
 ·
  cases h
 ·
  obtain ⟨h1, h2⟩ := sZ9 h
  obtain ⟨h2, h3⟩ := sZ9 h2
  have := chkA_len h2
  refine { hk with ins := ?_, il := fun z hz => ?_, sl := ?_ }
  ·
   show ((putIn E.ins k els).length : Int) ≤ _
   rw [putIn_len]; exact hk.ins
  ·
   rcases List.mem_or_eq_of_mem_set (show z ∈ E.ins.set _ _ from hz) with hz | rfl
   ·
    exact hk.il z hz
   ·
    show els.length ≤ 1000; omega
  ·
   show E.yr.sl.length = (putIn E.ins k els).length
   rw [putIn_len]; exact hk.sl
theorem ytryE_zero {Y : Yr} {s : Sp} (h : ytryE Y s = 0) : chkY s Y.n = 0 ∧ s.p = (Y.sl.length : Int) + 1 ∧ taddE Y.t s = 0 := by
 obtain ⟨h1, h2⟩ := sZ9 h
 obtain ⟨h2, h3⟩ := sZ9 h2
 refine ⟨h1, ?_, h3⟩
 unfold eqE at h2
 split at h2
 ·
  assumption
 ·
  cases h2
theorem chkY_len {z : Sp} {n : Int} (h : chkY z n = 0) : (z.rows.length : Int) = n := by
 obtain ⟨_, h2⟩ := sZ9 h
 obtain ⟨h2, _⟩ := sZ9 h2
 unfold eqE at h2
 split at h2
 ·
  assumption
 ·
  cases h2
structure RunOK (E : Em) (nom cnt : Int) : Prop where
 op : openE E cnt = 0
 re : rEz E.tb nom 0 (tryIn E) = 0
 sl : rslE E.tb E.yr.t (reckV E.tb nom 0 (tryIn E)) ((E.ins.length : Int) + 1) (!E.c.al) = 0
 ty : ytryE E.yr (tryV E nom 0) = 0
 bk : bookE E.bk (tryV E nom 0).net E.prot = 0
 ma : mEz (tryV E nom 0).p (tryV E nom 0).b (tryV E nom 0).tx (tryV E nom 0).sh (tryV E nom 0).rows (runTk E nom) = 0
 po : ytryE E.yr (rSz E nom) = 0
theorem runE_zero {nom cnt : Int} (h : runE E nom cnt = 0) : RunOK E nom cnt := by
 obtain ⟨h1, h2⟩ := sZ9 h
 obtain ⟨a1, a2⟩ := sZ9 h1
 obtain ⟨a2, a3⟩ := sZ9 a2
 obtain ⟨a3, a4⟩ := sZ9 a3
 obtain ⟨b1, b2⟩ := sZ9 h2
 obtain ⟨b2, b3⟩ := sZ9 b2
 exact ⟨a1, a2, a3, a4, b1, b2, b3⟩
theorem runTk_len (E : Em) (nom : Int) : (runTk E nom).length = E.bk.length := tkL_len _ _ _ _
theorem EmOK.run (hk : EmOK fq days E) (h : runE E (nIz fq) (cntI fq days) = 0) : EmOK fq days (runV E (nIz fq)) := by
 have r := runE_zero h
 have h1 := openE_zero r.op
 have h2 := hk.ins
 obtain ⟨c1, c2, c3⟩ := ytryE_zero r.po
 have h3 := chkY_len c1
 have h4 := hk.yn
 have h5 := hk.tc
 have h6 := hk.bk.len
 have h7 := hk.nx
 have hg := hk.bk.served hk.so r.bk
 refine { hk with nx := by show (0 : Nat) ≤ _; omega, ins := ?_, il := fun z hz => ?_, yn := hk.yn, yr := ?_, sl := ?_, each := fun z hz => ?_, bk := hg.1, so := hg.2 }
 ·
  show ((tryIn E).length : Int) ≤ _
  unfold tryIn; rw [List.length_append]; simp only [List.length_cons, List.length_nil]; omega
 ·
  rcases List.mem_append.1 (show z ∈ E.ins ++ [⟨E.c, E.next⟩] from hz) with hz | hz
  ·
   exact hk.il z hz
  ·
   rw [List.mem_singleton] at hz; subst hz; exact h7
 ·
  show (postL E.yr.t.rows (rSz E (nIz fq)).rows).length = _
  rw [postL_len]; exact hk.yr
 ·
  show (E.yr.sl ++ [rSz E (nIz fq)]).length = (tryIn E).length
  unfold tryIn; rw [List.length_append, List.length_append, hk.sl]; rfl
 ·
  rcases List.mem_append.1 (show z ∈ E.yr.sl ++ [rSz E (nIz fq)] from hz) with hz | hz
  ·
   exact hk.each z hz
  ·
   rw [List.mem_singleton] at hz
   subst hz
   refine ⟨by omega, ?_⟩
   show (runTk E (nIz fq)).length ≤ 8
   rw [runTk_len]; exact h6
theorem EmOK.new {t : Tb} {c : Cd} (hf : nIz fq ≠ 0) (hd : 0 ≤ days ∧ days ≤ 366) (ht : keepE t = 0) (h1 : t.sch.length ≤ 20) (h2 : t.cts.length ≤ 20) (h3 : t.kds.length ≤ 30) : EmOK fq days (newV t c) :=
 ⟨hf, hd, ht, h1, h2, h3, by show (0 : Nat) ≤ _; omega, cntI_nn hd.1, fun z hz => by simp [newV] at hz, rfl, by show (rows0 _).length = _; simp [rows0]; rfl, rfl, fun z hz => by simp [newV, yr0] at hz, GoodA.nil, List.Pairwise.nil⟩
end
def salB : ByteArray := ⟨#[115, 97, 108, 97, 114, 121]⟩
def plC : Cd := ⟨0, 1, 0, 0, false⟩
def salE (n : Int) : El := ⟨salB, n, 100⟩
theorem nom_m : nIz 4 = 12 := by decide
theorem cnt_m (d : Int) : cntI 4 d = 12 := by unfold cntI; rfl
structure Fx where
 k : Int
 l : List El
 a : Int
def fx0 : Fx := ⟨0, [], 0⟩
structure Dk where
 e : Em
 fx : List Fx
 fs : List In
def dnewV (E : Em) : Dk := ⟨E, [], E.ins⟩
def drunV (D : Dk) (nom : Int) : Dk := ⟨runV D.e nom, D.fx, D.fs ++ [⟨D.e.c, D.e.next⟩]⟩
def dfixE (D : Dk) (nom cnt k : Int) (els : List El) : Int := if D.fx.length = 256 then 2 else replE D.e nom cnt k els
def dfixV (D : Dk) (k : Int) (els : List El) : Dk := ⟨replV D.e k els, D.fx ++ [⟨k, els, D.fs.length⟩], D.fs⟩
def asE (D : Dk) (p : Int) : Int := if p < 0 ∨ (D.fs.length : Int) < p then 230 else 0
def asStep (p : Int) (out : List In) (f : Fx) : List In := if f.a < p ∧ f.k ≤ p then putIn out f.k f.l else out
def asN (D : Dk) (p : Int) (n : Nat) : List In := (D.fx.take n).foldl (asStep p) (D.fs.take p.toNat)
def asL (D : Dk) (p : Int) : List In := asN D p D.fx.length
theorem asStep_len (p : Int) (out : List In) (f : Fx) : (asStep p out f).length = out.length := by unfold asStep; split <;> simp [putIn]
theorem asN_next (D : Dk) (p : Int) (n : Nat) (h : n < D.fx.length) : asN D p (n + 1) = asStep p (asN D p n) (D.fx.getD n fx0) := by
 unfold asN
 rw [take_next D.fx n fx0 h, List.foldl_append]; rfl
theorem asN_len (D : Dk) (p : Int) (n : Nat) : (asN D p n).length = (D.fs.take p.toNat).length := by
 unfold asN
 generalize D.fx.take n = l
 generalize D.fs.take p.toNat = m
 induction l generalizing m with
 | nil => rfl
 | cons f l ih => rw [List.foldl_cons, ih, asStep_len]
structure Ef where
 b : Bs
 tx : Int
 sh : Int
 rows : List Sh
 net : Int
def ef0 : Ef := ⟨bs0, 0, 0, [], 0⟩
def betE (was now : Sp) : Int :=
 sqz (bEz So9 now.b was.b) (sqz (okE (okO So9 now.tx was.tx) 10) (sqz (okE (okO So9 now.sh was.sh) 10) (sqz (okE (okO So9 now.net was.net) 10) (deltaE now.rows was.rows))))
def betV (was now : Sp) : Ef := ⟨bothV So9 now.b was.b, now.tx - was.tx, now.sh - was.sh, dLz now.rows was.rows now.rows.length, now.net - was.net⟩
def effE (E : Em) (nom cnt k : Int) (els : List El) : Int :=
 sqz (tEz E nom cnt 0) (sqz (replE E nom cnt k els) (sqz (tEz (replV E k els) nom cnt 0) (betE (tryV E nom 0) (tryV (replV E k els) nom 0))))
def effV (E : Em) (nom k : Int) (els : List El) : Ef := betV (tryV E nom 0) (tryV (replV E k els) nom 0)
structure DkOK (fq days : Int) (D : Dk) : Prop where
 e : EmOK fq days D.e
 fs : D.fs.length = D.e.ins.length
 fl : ∀ z ∈ D.fs, z.l.length ≤ 1000
 fx : D.fx.length ≤ 256
 each : ∀ f ∈ D.fx, (1 ≤ f.k ∧ f.k ≤ f.a) ∧ f.a ≤ D.fs.length ∧ f.l.length ≤ 32
section
variable {fq days : Int} {D : Dk}
theorem DkOK.new {E : Em} (h : EmOK fq days E) : DkOK fq days (dnewV E) := ⟨h, rfl, h.il, by show (0 : Nat) ≤ 256; omega, fun f hf => by simp [dnewV] at hf⟩
theorem DkOK.act (h : DkOK fq days D) {E : Em} (he : EmOK fq days E) (hi : E.ins.length = D.e.ins.length) : DkOK fq days { D with e := E } := ⟨he, by rw [h.fs]; exact hi.symm, h.fl, h.fx, h.each⟩
theorem DkOK.run (h : DkOK fq days D) (hr : runE D.e (nIz fq) (cntI fq days) = 0) : DkOK fq days (drunV D (nIz fq)) := by
 refine ⟨h.e.run hr, ?_, fun z hz => ?_, h.fx, fun f hf => ?_⟩
 ·
  show (D.fs ++ [_]).length = (tryIn D.e).length
  unfold tryIn; rw [List.length_append, List.length_append, h.fs]; first | rfl | done
 ·
  rcases List.mem_append.1 (show z ∈ D.fs ++ [⟨D.e.c, D.e.next⟩] from hz) with hz | hz
  ·
   exact h.fl z hz
  ·
   rw [List.mem_singleton] at hz; subst hz; exact h.e.nx
 ·
  obtain ⟨a, b, c⟩ := h.each f hf
  refine ⟨a, ?_, c⟩
  show f.a ≤ ((D.fs ++ [(⟨D.e.c, D.e.next⟩ : In)]).length : Int)
  rw [List.length_append]; simp only [List.length_cons, List.length_nil]; omega
theorem replE_zero {E : Em} {nom cnt k : Int} {els : List El} (h : replE E nom cnt k els = 0) : (1 ≤ k ∧ k ≤ E.ins.length) ∧ openE E cnt = 0 ∧ kAz E.tb.kds els els.length = 0 ∧ rEz E.tb nom 0 (putIn E.ins k els) = 0 := by
 unfold replE at h
 split at h
 ·
  cases h
 ·
  obtain ⟨h1, h2⟩ := sZ9 h
  obtain ⟨h2, h3⟩ := sZ9 h2
  exact ⟨by omega, h1, h2, h3⟩
theorem dfixE_zero {nom cnt k : Int} {els : List El} (h : dfixE D nom cnt k els = 0) : ¬ D.fx.length = 256 ∧ replE D.e nom cnt k els = 0 := by
 unfold dfixE at h
 split at h
 ·
  cases h
 ·
  exact ⟨by assumption, h⟩
theorem DkOK.fix (h : DkOK fq days D) {k : Int} {els : List El} (hr : dfixE D (nIz fq) (cntI fq days) k els = 0) : DkOK fq days (dfixV D k els) := by
 obtain ⟨h1, h2⟩ := dfixE_zero hr
 obtain ⟨h3, _, h4, _⟩ := replE_zero h2
 have h5 := chkA_len h4
 have h6 := h.fx
 have h7 := h.fs
 refine ⟨h.e.repl h2, ?_, h.fl, ?_, fun f hf => ?_⟩
 ·
  show D.fs.length = (putIn D.e.ins k els).length
  rw [putIn_len]; exact h.fs
 ·
  show (D.fx ++ [_]).length ≤ 256
  rw [List.length_append]; simp only [List.length_cons, List.length_nil]; omega
 ·
  rcases List.mem_append.1 (show f ∈ D.fx ++ [⟨k, els, D.fs.length⟩] from hf) with hf | hf
  ·
   exact h.each f hf
  ·
   rw [List.mem_singleton] at hf; subst hf
   exact ⟨⟨h3.1, by show k ≤ (D.fs.length : Int); omega⟩, by show (D.fs.length : Int) ≤ _; exact Int.le_refl _, h5⟩
end
def plT23 : Tb := ⟨[[⟨0, 2000, 0⟩]], [], [⟨salB, 1, 1, 1⟩], 5000, 1⟩
def fk0 : Em := newV plT23 plC
def fk1 : Em := payV fk0 [salE 1000]
def fd1 : Dk := { dnewV fk0 with e := fk1 }
def fd2 : Dk := drunV fd1 12
def fd3 : Dk := dfixV fd2 1 [salE 2000]
def fd4 : Dk := drunV fd3 12
theorem fk0_e : newE plT23 plC = 0 := by decide +kernel
theorem fk1_e : payE fk0 12 [salE 1000] = 0 := by decide +kernel
theorem fd2_e : runE fk1 12 12 = 0 := by decide +kernel
theorem fx_e : effE fd2.e 12 12 1 [salE 2000] = 0 := by decide +kernel
theorem fx_v : (effV fd2.e 12 1 [salE 2000]).b.c = 1000 ∧ (effV fd2.e 12 1 [salE 2000]).tx = 200 ∧ (effV fd2.e 12 1 [salE 2000]).net = 800 := by decide +kernel
theorem fd4_e : runE fd3.e 12 12 = 0 := by decide +kernel
theorem fd4_s : (rSz fd3.e 12).b.c = 1000 ∧ (rSz fd3.e 12).tx = 200 := by decide +kernel
theorem fas_e : asE fd4 1 = 0 ∧ asE fd4 2 = 0 := by decide +kernel
theorem fas_v : (asL fd4 1).length = 1 ∧ ((asL fd4 1).getD 0 in0).l = [salE 1000] ∧ (asL fd4 2).length = 2 ∧ ((asL fd4 2).getD 0 in0).l = [salE 2000] := ⟨by decide +kernel, by rfl, by decide +kernel, by rfl⟩
theorem fd4_v : fd4.fx.length = 1 ∧ (fd4.fx.getD 0 fx0).a = 1 ∧ fd4.fs.length = 2 ∧ periodI fd4.e 12 = 3 := by decide +kernel
end Go.Proofs.YtiaabmhjkoohmaaGreat
