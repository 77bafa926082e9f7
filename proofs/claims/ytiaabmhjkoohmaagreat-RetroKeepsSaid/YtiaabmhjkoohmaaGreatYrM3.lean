/-
 Contract of year.add. Conditions as named.
-/
import Derived.Test.YtiaabmhjkoohmaaGreatYrM2
import Derived.Deep.RegionLaw
namespace Go.Proofs.YtiaabmhjkoohmaaGreat
set_option maxRecDepth 100000
set_option maxHeartbeats 25600000
set_option linter.unusedVariables false
set_option linter.unusedSimpArgs false
open Go.RowKit Tryz
open Lib (hid)
theorem st9 {w0 W : World} {g : Nat} (h : Below w0.heap.size w0 W) (hg : w0.heap.size ≤ g) (v0 v1 v2 v3 v4 v5 v6 v7 v8 : Value) : Below w0.heap.size w0 (((((((((W.setCell ⟨g, 0, none⟩ v0).setCell ⟨g, 1, none⟩ v1).setCell ⟨g, 2, none⟩ v2).setCell ⟨g, 3, none⟩ v3).setCell ⟨g, 4, none⟩ v4).setCell ⟨g, 5, none⟩ v5).setCell ⟨g, 6, none⟩ v6).setCell ⟨g, 7, none⟩ v7).setCell ⟨g, 8, none⟩ v8) := (bSg (bSg (bSg (bSg (bSg (bSg (bSg (bSg (bSg h hg 0 v0) hg 1 v1) hg 2 v2) hg 3 v3) hg 4 v4) hg 5 v5) hg 6 v6) hg 7 v7) hg 8 v8)
theorem own_st9 {W : World} {base size n : Nat} {e : TypeId} {v : Value} {xs : List Value} (h : W.ownsRow base e size v n xs) {g : Nat} {t : TypeId} {cs : Array Value} (hk : Blk W g t cs) (hne : e ≠ t) (v0 v1 v2 v3 v4 v5 v6 v7 v8 : Value) : (((((((((W.setCell ⟨g, 0, none⟩ v0).setCell ⟨g, 1, none⟩ v1).setCell ⟨g, 2, none⟩ v2).setCell ⟨g, 3, none⟩ v3).setCell ⟨g, 4, none⟩ v4).setCell ⟨g, 5, none⟩ v5).setCell ⟨g, 6, none⟩ v6).setCell ⟨g, 7, none⟩ v7).setCell ⟨g, 8, none⟩ v8).ownsRow base e size v n xs :=
 (oS9 (oS9 (oS9 (oS9 (oS9 (oS9 (oS9 (oS9 (oS9 h hk hne 0 v0) (hk.setJ 0 v0) hne 1 v1) ((hk.setJ 0 v0).setJ 1 v1) hne 2 v2) (((hk.setJ 0 v0).setJ 1 v1).setJ 2 v2) hne 3 v3) ((((hk.setJ 0 v0).setJ 1 v1).setJ 2 v2).setJ 3 v3) hne 4 v4) (((((hk.setJ 0 v0).setJ 1 v1).setJ 2 v2).setJ 3 v3).setJ 4 v4) hne 5 v5) ((((((hk.setJ 0 v0).setJ 1 v1).setJ 2 v2).setJ 3 v3).setJ 4 v4).setJ 5 v5) hne 6 v6) (((((((hk.setJ 0 v0).setJ 1 v1).setJ 2 v2).setJ 3 v3).setJ 4 v4).setJ 5 v5).setJ 6 v6) hne 7 v7) ((((((((hk.setJ 0 v0).setJ 1 v1).setJ 2 v2).setJ 3 v3).setJ 4 v4).setJ 5 v5).setJ 6 v6).setJ 7 v7) hne 8 v8)
def taddV (t : To) (s : Sp) : To := ⟨bothV Ao9 t.b s.b, t.tx + s.tx, s.sh, postL t.rows s.rows, t.net + s.net, t.tk + sumT s.tk s.tk.length, t.py + s.py⟩
def taddE (t : To) (s : Sp) : Int :=
 sqz (bEz Ao9 t.b s.b) (sqz (tsumE s.tk s.tk.length) (sqz (okE (okO Ao9 t.tx s.tx) 10) (sqz (okE (okO Ao9 t.net s.net) 10) (sqz (okE (okO Ao9 t.tk (sumT s.tk s.tk.length)) 10) (sqz (okE (okO Ao9 t.py s.py) 10) (postE t.rows s.rows))))))
def AddR' (E : Int) (V t : To) (A : Option Addr) (n c : Nat) (w : World) (e : Ending) (w' : World) : Prop :=
  ((E = 0 ∧ ∃ A' c', e = .returned (.tuple #[.agg (toC V A' V.rows.length c'), .int .i64 0]) ∧ w'.ownsRow w.heap.size 79 2 (.slice A' V.rows.length c') V.rows.length (V.rows.flatMap shC)) ∨
   (E ≠ 0 ∧ e = .returned (.tuple #[.agg (toC t A n c), .int .i64 E]))) ∧ Below w.heap.size w w'
theorem ev_fn (o a : Nat → Int) : ∃ F G : Nat → Int, (∀ j, Hid (F j = okE (okO Ao9 (o j) (a j)) 10)) ∧ (∀ j, Hid (F j = 0 → G j = o j + a j)) ∧ ∀ j, Hid (F j ≠ 0 → G j = 0) := by
 refine ⟨fun j => okE (okO Ao9 (o j) (a j)) 10, fun j => if okE (okO Ao9 (o j) (a j)) 10 = 0 then o j + a j else 0, fun j => rfl, fun j h => ?_, fun j h => ?_⟩
 ·
  exact if_pos h
 ·
  exact if_neg h
def four (x y z u : Int) : Nat → Int := fun j => if j = 0 then x else if j = 1 then y else if j = 2 then z else u
def mix (G o : Nat → Int) (k j : Nat) : Int := if j < k then G j else o j
theorem yadd_c (t : To) (s : Sp) (A A2 B2 : Option Addr) (n c n2 c2 m2 d2 : Nat) (w : World) (hr : Sh9 w A n t.rows) (hs : Sh9 w A2 n2 s.rows) (ht : TkSl w B2 m2 s.tk) (hn : n ≤ 64) (re : Int) (V : To) (he : Hid (re = taddE t s)) (hV : Hid (V = taddV t s)) :
  Calls prog 90 #[.agg (toC t A n c), .agg (spC s A2 n2 c2 B2 m2 d2)] w (AddR' re V t A n c w) := by
 have HF0 := hid (Fr.start w)
 have HM : Hid (m2 = s.tk.length) := ht.1
 obtain ⟨E1, hE1⟩ : ∃ E, E = bEz Ao9 t.b s.b := ⟨_, rfl⟩
 obtain ⟨V1, hV1⟩ : ∃ V, V = bothV Ao9 t.b s.b := ⟨_, rfl⟩
 have K1 := hid (fun W => bAdd_c t.b s.b W E1 V1 hE1 hV1)
 obtain ⟨E2, V2, hE2, hV2, hV20⟩ := ev_ex (tsumE s.tk m2) (sumT s.tk m2)
 have K2 := hid (fun W (h : TkSl W B2 m2 s.tk) => asum_g B2 m2 d2 s.tk W h E2 V2 hE2 hV2 hV20)
 obtain ⟨F, G, hF, hG, hG0⟩ := ev_fn (four t.tx t.net t.tk t.py) (four s.tx s.net V2 s.py)
 have K3 := hid (fun j W => madd_c (four t.tx t.net t.tk t.py j) (four s.tx s.net V2 s.py j) W (F j) (G j) (hF j) (hG j) (hG0 j))
 obtain ⟨E4, hE4⟩ : ∃ E, E = postE t.rows s.rows := ⟨_, rfl⟩
 obtain ⟨L4, hL4⟩ : ∃ L, L = postL t.rows s.rows := ⟨_, rfl⟩
 have K4 := hid (fun W (h1 : Sh9 W A n t.rows) (h2 : Sh9 W A2 n2 s.rows) => spost_c t.rows s.rows A A2 n c n2 c2 W hn h1 h2 E4 L4 hE4 hL4)
 have H1 : Hid (re = sqz E1 (sqz E2 (sqz (F 0) (sqz (F 1) (sqz (F 2) (sqz (F 3) E4)))))) := he.out.trans (by
  unfold taddE
  rw [← hE1, ← HM.out, ← hE2.out, ← hE4, (hF 0).out, (hF 1).out, (hF 2).out, (hF 3).out]
  by_cases h1 : E1 = 0
  ·
   rw [sE9 h1, sE9 h1]
   by_cases h2 : E2 = 0
   ·
    rw [← hV2.out h2]; rfl
   ·
    rw [sN9 h2, sN9 h2]
  ·
   rw [sN9 h1, sN9 h1])
 have HZ : Hid (re = 0 → V = ⟨V1, G 0, s.sh, L4, G 1, G 2, G 3⟩) := fun h => by
  have h0 := H1.out.symm.trans h
  obtain ⟨h1, h0⟩ := sZ9 h0
  obtain ⟨h2, h0⟩ := sZ9 h0
  obtain ⟨f0, h0⟩ := sZ9 h0
  obtain ⟨f1, h0⟩ := sZ9 h0
  obtain ⟨f2, h0⟩ := sZ9 h0
  obtain ⟨f3, _⟩ := sZ9 h0
  rw [hV.out]
  unfold taddV
  rw [(hG 0).out f0, (hG 1).out f1, (hG 2).out f2, (hG 3).out f3, ← HM.out, hV1, hL4]
  show _ = To.mk _ (t.tx + s.tx) _ _ (t.net + s.net) (t.tk + V2) (t.py + s.py)
  rw [hV2.out h2]
 have HL4 : Hid (L4.length = n) := by rw [hL4, postL_len]; exact hr.1.symm
 have HRW := hid hr
 have HSW := hid hs
 have HTK := hid ht
 clear hr hs ht hE1 hV1 hE2 hV2 hV20 hF hG hG0 hE4 hL4 he hV HM
 obtain ⟨⟨bc, bt, bs⟩, tx, sh, rows, net, tk, py⟩ := t
 obtain ⟨sp, ⟨sc, st, ss⟩, stx, ssh, srows, snet, stk, spy⟩ := s
 obtain ⟨vc, vt, vs⟩ := V1
 unfold AddR' toC spC
 dsimp only at K1 K2 K3 K4 HZ HRW HSW HTK ⊢
 have HF1 := al9 (((((HF0.out.al 82 #[.int .i64 bc, .int .i64 bt, .int .i64 bs, .int .i64 tx, .int .i64 sh, .slice A n c, .int .i64 net, .int .i64 tk, .int .i64 py]).al 45 #[.int .i64 sp, .int .i64 sc, .int .i64 st, .int .i64 ss, .int .i64 stx, .int .i64 ssh, .slice A2 n2 c2, .int .i64 snet, .slice B2 m2 d2, .int .i64 spy]).al 82 #[.int .i64 0, .int .i64 0, .int .i64 0, .int .i64 0, .int .i64 0, .slice none 0 0, .int .i64 0, .int .i64 0, .int .i64 0]).al 82 #[.int .i64 bc, .int .i64 bt, .int .i64 bs, .int .i64 tx, .int .i64 sh, .slice A n c, .int .i64 net, .int .i64 tk, .int .i64 py]))
 clear HF0
 go_enter func90, ntmps90
 obtain ⟨c0_0, c0_1, c0_2, c0_3, c0_4, c0_5, c0_6, c0_7, c0_8⟩ := (HF1.out.b 0 rfl).q9
 obtain ⟨c1_0, c1_1, c1_2, c1_3, c1_4, c1_5, c1_6, c1_7, c1_8, c1_9⟩ := (HF1.out.b 1 rfl).q10
 go_wp2_with fail
 refine (K1.out _).mono ?_
 rintro e W1 ⟨rfl, hb⟩
 clear c0_0 c0_1 c0_2 c0_3 c0_4 c0_5 c0_6 c0_7 c0_8 c1_0 c1_1 c1_2 c1_3 c1_4 c1_5 c1_6 c1_7 c1_8 c1_9
 have HF2 := hid (HF1.out.ca hb)
 clear hb HF1
 have qz := HF2.out.b 3 rfl
 have c3_0 := qz.cv 0 (.int .i64 bc) rfl
 have f3_0 := qz.free 0
 have c3_1 := qz.cv 1 (.int .i64 bt) rfl
 have f3_1 := qz.free 1
 have c3_2 := qz.cv 2 (.int .i64 bs) rfl
 have f3_2 := qz.free 2
 clear qz
 have HF3 := hid (HF2.out.st 3 rfl 0 (.int .i64 vc))
 clear HF2
 have HF4 := hid (HF3.out.st 3 rfl 1 (.int .i64 vt))
 clear HF3
 have HF5 := hid (HF4.out.st 3 rfl 2 (.int .i64 vs))
 clear HF4
 by_cases h0 : E1 = 0
 case neg =>
  have tr : (E1 != 0) = true := by simpa using h0
  have HE : Hid (re = E1) := H1.out.trans (sN9 h0)
  have HN0 : Hid (re ≠ 0) := by unfold Hid; rw [HE.out]; exact h0
  clear h0
  obtain ⟨c0_0, c0_1, c0_2, c0_3, c0_4, c0_5, c0_6, c0_7, c0_8⟩ := (HF5.out.b 0 rfl).q9
  obtain ⟨c2_0, c2_1, c2_2, c2_3, c2_4, c2_5, c2_6, c2_7, c2_8⟩ := (HF5.out.b 2 rfl).q9
  obtain ⟨f2_0, f2_1, f2_2, f2_3, f2_4, f2_5, f2_6, f2_7, f2_8⟩ := (HF5.out.b 2 rfl).r9
  go_wp2_with fail
  refine bodyPost_ret (v := .tuple #[.agg #[.int .i64 bc, .int .i64 bt, .int .i64 bs, .int .i64 tx, .int .i64 sh, .slice A n c, .int .i64 net, .int .i64 tk, .int .i64 py], .int .i64 E1]) (by simp [results, results90, go_sem, c2_0, c2_1, c2_2, c2_3, c2_4, c2_5, c2_6, c2_7, c2_8]) rfl ⟨Or.inr ⟨HN0.out, by rw [HE.out]⟩, ?_⟩
  have hg := HF5.out.ge 2 rfl
  exact st9 HF5.out.bl hg (.int .i64 bc) (.int .i64 bt) (.int .i64 bs) (.int .i64 tx) (.int .i64 sh) (.slice A n c) (.int .i64 net) (.int .i64 tk) (.int .i64 py)
 have H2 := hid (H1.out.trans (sE9 h0))
 subst h0
 obtain ⟨c1_0, c1_1, c1_2, c1_3, c1_4, c1_5, c1_6, c1_7, c1_8, c1_9⟩ := (HF5.out.b 1 rfl).q10
 go_wp2_with fail
 refine (K2.out _ (HTK.out.below HF5.out.bl)).mono ?_
 rintro e W2 ⟨rfl, hb⟩
 clear c3_0 f3_0 c3_1 f3_1 c3_2 f3_2 c1_0 c1_1 c1_2 c1_3 c1_4 c1_5 c1_6 c1_7 c1_8 c1_9
 have HF6 := hid (HF5.out.ca hb)
 clear hb HF5
 by_cases h0 : E2 = 0
 case neg =>
  have tr : (E2 != 0) = true := by simpa using h0
  have HE : Hid (re = E2) := H2.out.trans (sN9 h0)
  have HN0 : Hid (re ≠ 0) := by unfold Hid; rw [HE.out]; exact h0
  clear h0
  obtain ⟨c0_0, c0_1, c0_2, c0_3, c0_4, c0_5, c0_6, c0_7, c0_8⟩ := (HF6.out.b 0 rfl).q9
  obtain ⟨c2_0, c2_1, c2_2, c2_3, c2_4, c2_5, c2_6, c2_7, c2_8⟩ := (HF6.out.b 2 rfl).q9
  obtain ⟨f2_0, f2_1, f2_2, f2_3, f2_4, f2_5, f2_6, f2_7, f2_8⟩ := (HF6.out.b 2 rfl).r9
  go_wp2_with fail
  refine bodyPost_ret (v := .tuple #[.agg #[.int .i64 bc, .int .i64 bt, .int .i64 bs, .int .i64 tx, .int .i64 sh, .slice A n c, .int .i64 net, .int .i64 tk, .int .i64 py], .int .i64 E2]) (by simp [results, results90, go_sem, c2_0, c2_1, c2_2, c2_3, c2_4, c2_5, c2_6, c2_7, c2_8]) rfl ⟨Or.inr ⟨HN0.out, by rw [HE.out]⟩, ?_⟩
  have hg := HF6.out.ge 2 rfl
  exact st9 HF6.out.bl hg (.int .i64 bc) (.int .i64 bt) (.int .i64 bs) (.int .i64 tx) (.int .i64 sh) (.slice A n c) (.int .i64 net) (.int .i64 tk) (.int .i64 py)
 have H3 := hid (H2.out.trans (sE9 h0))
 subst h0
 obtain ⟨c1_0, c1_1, c1_2, c1_3, c1_4, c1_5, c1_6, c1_7, c1_8, c1_9⟩ := (HF6.out.b 1 rfl).q10
 go_wp2_with fail
 have HFL : Hid (Fr w _ [(w.heap.size, 82, #[.int .i64 bc, .int .i64 bt, .int .i64 bs, .int .i64 tx, .int .i64 sh, .slice A n c, .int .i64 net, .int .i64 tk, .int .i64 py]), (w.heap.size + 1, 45, #[.int .i64 sp, .int .i64 sc, .int .i64 st, .int .i64 ss, .int .i64 stx, .int .i64 ssh, .slice A2 n2 c2, .int .i64 snet, .slice B2 m2 d2, .int .i64 spy]), (w.heap.size + 1 + 1, 82, #[.int .i64 0, .int .i64 0, .int .i64 0, .int .i64 0, .int .i64 0, .slice none 0 0, .int .i64 0, .int .i64 0, .int .i64 0]), (w.heap.size + 1 + 1 + 1, 82, #[.int .i64 vc, .int .i64 vt, .int .i64 vs, .int .i64 (mix G (four tx net tk py) 0 0), .int .i64 sh, .slice A n c, .int .i64 (mix G (four tx net tk py) 0 1), .int .i64 (mix G (four tx net tk py) 0 2), .int .i64 (mix G (four tx net tk py) 0 3)])]) := HF6
 go_loopw [51, 7, 10] (fun i _ _ wr => ∃ k : Nat, k ≤ 4 ∧ i = .int .i64 k ∧ Hid (∀ j, j < k → F j = 0) ∧ Hid (Fr w wr [(w.heap.size, 82, #[.int .i64 bc, .int .i64 bt, .int .i64 bs, .int .i64 tx, .int .i64 sh, .slice A n c, .int .i64 net, .int .i64 tk, .int .i64 py]), (w.heap.size + 1, 45, #[.int .i64 sp, .int .i64 sc, .int .i64 st, .int .i64 ss, .int .i64 stx, .int .i64 ssh, .slice A2 n2 c2, .int .i64 snet, .slice B2 m2 d2, .int .i64 spy]), (w.heap.size + 1 + 1, 82, #[.int .i64 0, .int .i64 0, .int .i64 0, .int .i64 0, .int .i64 0, .slice none 0 0, .int .i64 0, .int .i64 0, .int .i64 0]), (w.heap.size + 1 + 1 + 1, 82, #[.int .i64 vc, .int .i64 vt, .int .i64 vs, .int .i64 (mix G (four tx net tk py) k 0), .int .i64 sh, .slice A n c, .int .i64 (mix G (four tx net tk py) k 1), .int .i64 (mix G (four tx net tk py) k 2), .int .i64 (mix G (four tx net tk py) k 3)])])) (fun i _ _ _ => 4 - (intOf i).toNat)
 case atStart => exact ⟨0, by omega, rfl, fun j hj => absurd hj (by omega), HFL⟩
 case round =>
  clear HFL
  obtain ⟨k, hk', rfl, HFZ, HFr⟩ := hrel
  by_cases hk : k < 4
  case pos =>
   --<<
   obtain ⟨o, x, y, hix, hcx, hka, hup⟩ : ∃ (o : Nat) (x y : Int), (∀ W, (Instr.index 239 (.agg #[.pointer (some ⟨w.heap.size + 1 + 1 + 1, 3, none⟩), .int .i64 stx, .pointer (some ⟨w.heap.size + 1 + 1 + 1, 6, none⟩), .int .i64 snet, .pointer (some ⟨w.heap.size + 1 + 1 + 1, 7, none⟩), .int .i64 V2, .pointer (some ⟨w.heap.size + 1 + 1 + 1, 8, none⟩), .int .i64 spy]) (.int .i64 k)).run prog W = .ok (.agg #[.pointer (some ⟨w.heap.size + 1 + 1 + 1, o, none⟩), .int .i64 y]) W) ∧ (#[.int .i64 vc, .int .i64 vt, .int .i64 vs, .int .i64 (mix G (four tx net tk py) k 0), .int .i64 sh, .slice A n c, .int .i64 (mix G (four tx net tk py) k 1), .int .i64 (mix G (four tx net tk py) k 2), .int .i64 (mix G (four tx net tk py) k 3)] : Array Value)[o]? = some (.int .i64 x) ∧ (∀ W, Calls prog 124 #[.int .i64 x, .int .i64 y] W fun e w' => e = .returned (.tuple #[.int .i64 (G k), .int .i64 (F k)]) ∧ Below W.heap.size W w') ∧ (#[.int .i64 vc, .int .i64 vt, .int .i64 vs, .int .i64 (mix G (four tx net tk py) k 0), .int .i64 sh, .slice A n c, .int .i64 (mix G (four tx net tk py) k 1), .int .i64 (mix G (four tx net tk py) k 2), .int .i64 (mix G (four tx net tk py) k 3)] : Array Value).setIfInBounds o (.int .i64 (G k)) = #[.int .i64 vc, .int .i64 vt, .int .i64 vs, .int .i64 (mix G (four tx net tk py) (k + 1) 0), .int .i64 sh, .slice A n c, .int .i64 (mix G (four tx net tk py) (k + 1) 1), .int .i64 (mix G (four tx net tk py) (k + 1) 2), .int .i64 (mix G (four tx net tk py) (k + 1) 3)] := by
    rcases (by omega : k = 0 ∨ k = 1 ∨ k = 2 ∨ k = 3) with rfl | rfl | rfl | rfl
    ·
     exact ⟨3, tx, stx, fun _ => by kernel_rfl, rfl, fun W => K3.out 0 W, rfl⟩
    ·
     exact ⟨6, net, snet, fun _ => by kernel_rfl, rfl, fun W => K3.out 1 W, rfl⟩
    ·
     exact ⟨7, tk, V2, fun _ => by kernel_rfl, rfl, fun W => K3.out 2 W, rfl⟩
    ·
     exact ⟨8, py, spy, fun _ => by kernel_rfl, rfl, fun W => K3.out 3 W, rfl⟩
   have HSQ : Hid (F k ≠ 0 → re = F k) := fun h => H3.out.trans (by
    rcases (by omega : k = 0 ∨ k = 1 ∨ k = 2 ∨ k = 3) with rfl | rfl | rfl | rfl
    ·
     rw [sN9 h]
    ·
     rw [sE9 (HFZ.out 0 (by omega)), sN9 h]
    ·
     rw [sE9 (HFZ.out 0 (by omega)), sE9 (HFZ.out 1 (by omega)), sN9 h]
    ·
     rw [sE9 (HFZ.out 0 (by omega)), sE9 (HFZ.out 1 (by omega)), sE9 (HFZ.out 2 (by omega)), sN9 h])
   have HSN : Hid (F k = 0 → ∀ j, j < k + 1 → F j = 0) := fun h j hj => by
    rcases (by omega : j = k ∨ j < k) with rfl | hj
    ·
     exact h
    ·
     exact HFZ.out j hj
   have HUP := hid hup
   have HCX := hid hcx
   have K3k := hid hka
   have kz : ((k : Int)).toNat = k := by omega
   have k0 : (0 : Int) ≤ (k : Int) := by omega
   have k4 : (k : Int) < 4 := by omega
   clear hk' HFZ hup hcx hka K3
   generalize G k = gk at HUP K3k
   generalize F k = fk at K3k HSQ HSN
   obtain ⟨OK0, hok⟩ : ∃ a : Array Value, a = #[.int .i64 vc, .int .i64 vt, .int .i64 vs, .int .i64 (mix G (four tx net tk py) k 0), .int .i64 sh, .slice A n c, .int .i64 (mix G (four tx net tk py) k 1), .int .i64 (mix G (four tx net tk py) k 2), .int .i64 (mix G (four tx net tk py) k 3)] := ⟨_, rfl⟩
   rw [← hok] at HCX HUP
   have HFa : Hid (Fr w wr [(w.heap.size, 82, #[.int .i64 bc, .int .i64 bt, .int .i64 bs, .int .i64 tx, .int .i64 sh, .slice A n c, .int .i64 net, .int .i64 tk, .int .i64 py]), (w.heap.size + 1, 45, #[.int .i64 sp, .int .i64 sc, .int .i64 st, .int .i64 ss, .int .i64 stx, .int .i64 ssh, .slice A2 n2 c2, .int .i64 snet, .slice B2 m2 d2, .int .i64 spy]), (w.heap.size + 1 + 1, 82, #[.int .i64 0, .int .i64 0, .int .i64 0, .int .i64 0, .int .i64 0, .slice none 0 0, .int .i64 0, .int .i64 0, .int .i64 0]), (w.heap.size + 1 + 1 + 1, 82, OK0)]) := by rw [hok]; exact HFr
   clear HFr hok
   have HF7 := al9 ((HFa.out.al 238 #[.pointer (some ⟨w.heap.size + 1 + 1 + 1, o, none⟩), .int .i64 y]))
   clear HFa
   go_wp2_with fail
   generalize hw5 : wr.alloc (.cells #[.pointer (some ⟨w.heap.size + 1 + 1 + 1, o, none⟩), .int .i64 y] 238) = w5 at *
   clear hw5
   have c4_0 := (HF7.out.b 4 rfl).cv 0 (.pointer (some ⟨w.heap.size + 1 + 1 + 1, o, none⟩)) rfl
   have c4_1 := (HF7.out.b 4 rfl).cv 1 (.int .i64 y) rfl
   have c3 := (HF7.out.b 3 rfl).cv o (.int .i64 x) HCX.out
   have f3 := (HF7.out.b 3 rfl).free o
   go_region_law (go_simp; go_at_call 124; (with_reducible refine (K3k.out _).mono ?_); rintro e w6 ⟨rfl, hb6⟩; have hB6 : Below w5.heap.size w5 w6 := bT (b0 _).drew hb6; have e0 := ((HF7.out.ca hB6).b 4 rfl).cv 0 (.pointer (some ⟨w.heap.size + 1 + 1 + 1, o, none⟩)) rfl; have e1 := ((HF7.out.ca hB6).b 3 rfl).cv o (.int .i64 x) HCX.out; have e2 := ((HF7.out.ca hB6).b 3 rfl).free o)
   all_goals
    trace "GOAL"
    have HF6 := hid (((HF7.out.ca hB6).cut 4).st 3 rfl o (.int .i64 gk))
    clear hB6 hb6 e0 e1 e2
    simp only [Exit.inBlock, Exit.then]
    by_cases h0 : fk = 0
    case pos =>
     have HSM := hid (HSN.out h0)
     subst h0
     clear HSN HSQ K3k
     go_wp2_with fail
     go_roundw
     case rel =>
      refine ⟨k + 1, by omega, by go_num, HSM.out, ?_⟩
      have h := HF6.out
      unfold Hid
      rw [← HUP.out]
      exact h
     case measure => simp [intOf]; omega
    case neg =>
     have tr : (fk != 0) = true := by simpa using h0
     have HE := hid (HSQ.out h0)
     have HN0 : Hid (re ≠ 0) := by unfold Hid; rw [HE.out]; exact h0
     clear h0 HSN HSQ K3k
     obtain ⟨c0_0, c0_1, c0_2, c0_3, c0_4, c0_5, c0_6, c0_7, c0_8⟩ := (HF6.out.b 0 rfl).q9
     obtain ⟨c2_0, c2_1, c2_2, c2_3, c2_4, c2_5, c2_6, c2_7, c2_8⟩ := (HF6.out.b 2 rfl).q9
     obtain ⟨f2_0, f2_1, f2_2, f2_3, f2_4, f2_5, f2_6, f2_7, f2_8⟩ := (HF6.out.b 2 rfl).r9
     go_wp2_with fail
     refine bodyPost_ret (v := .tuple #[.agg #[.int .i64 bc, .int .i64 bt, .int .i64 bs, .int .i64 tx, .int .i64 sh, .slice A n c, .int .i64 net, .int .i64 tk, .int .i64 py], .int .i64 fk]) (by simp [results, results90, go_sem, c2_0, c2_1, c2_2, c2_3, c2_4, c2_5, c2_6, c2_7, c2_8]) rfl ⟨Or.inr ⟨HN0.out, by rw [HE.out]⟩, ?_⟩
     have hg := HF6.out.ge 2 rfl
     exact st9 HF6.out.bl hg (.int .i64 bc) (.int .i64 bt) (.int .i64 bs) (.int .i64 tx) (.int .i64 sh) (.slice A n c) (.int .i64 net) (.int .i64 tk) (.int .i64 py)
   -->>
  obtain rfl : k = 4 := by omega
  have H7 : Hid (re = E4) := H3.out.trans (by rw [sE9 (HFZ.out 0 (by omega)), sE9 (HFZ.out 1 (by omega)), sE9 (HFZ.out 2 (by omega)), sE9 (HFZ.out 3 (by omega))])
  have HFa : Hid (Fr w wr [(w.heap.size, 82, #[.int .i64 bc, .int .i64 bt, .int .i64 bs, .int .i64 tx, .int .i64 sh, .slice A n c, .int .i64 net, .int .i64 tk, .int .i64 py]), (w.heap.size + 1, 45, #[.int .i64 sp, .int .i64 sc, .int .i64 st, .int .i64 ss, .int .i64 stx, .int .i64 ssh, .slice A2 n2 c2, .int .i64 snet, .slice B2 m2 d2, .int .i64 spy]), (w.heap.size + 1 + 1, 82, #[.int .i64 0, .int .i64 0, .int .i64 0, .int .i64 0, .int .i64 0, .slice none 0 0, .int .i64 0, .int .i64 0, .int .i64 0]), (w.heap.size + 1 + 1 + 1, 82, #[.int .i64 vc, .int .i64 vt, .int .i64 vs, .int .i64 (G 0), .int .i64 sh, .slice A n c, .int .i64 (G 1), .int .i64 (G 2), .int .i64 (G 3)])]) := HFr
  clear HFr hk hk' HFZ H3 K3
  generalize G 0 = g0 at *
  generalize G 1 = g1 at *
  generalize G 2 = g2 at *
  generalize G 3 = g3 at *
  have c0_5 := (HFa.out.b 0 rfl).cv 5 (.slice A n c) rfl
  have c1_6 := (HFa.out.b 1 rfl).cv 6 (.slice A2 n2 c2) rfl
  go_wp2_with fail
  refine (K4.out _ (HRW.out.below HFa.out.bl) (HSW.out.below HFa.out.bl)).mono ?_
  rintro e w7 ⟨⟨h0, v, rfl, ho⟩ | ⟨h0, rfl⟩, hb⟩
  ·
   obtain ⟨A7, c7, rfl⟩ := oL9 ho.2
   have HLN := hid ho.1
   have HO := hid (oM9 ho.2 HFa.out.bl.size)
   have HZZ := hid (HZ.out (H7.out.trans h0))
   have HE := hid (H7.out.trans h0)
   subst h0
   have HF9 := hid (HFa.out.ca hb)
   clear ho hb HZ H7 K4 c0_5 c1_6 HFa
   have qz := HF9.out.b 3 rfl
   have c3_0 := qz.cv 0 (.int .i64 vc) rfl
   have f3_0 := qz.free 0
   have c3_1 := qz.cv 1 (.int .i64 vt) rfl
   have f3_1 := qz.free 1
   have c3_2 := qz.cv 2 (.int .i64 vs) rfl
   have f3_2 := qz.free 2
   have c3_3 := qz.cv 3 (.int .i64 g0) rfl
   have f3_3 := qz.free 3
   have c3_4 := qz.cv 4 (.int .i64 sh) rfl
   have f3_4 := qz.free 4
   have c3_5 := qz.cv 5 (.slice A n c) rfl
   have f3_5 := qz.free 5
   have c3_6 := qz.cv 6 (.int .i64 g1) rfl
   have f3_6 := qz.free 6
   have c3_7 := qz.cv 7 (.int .i64 g2) rfl
   have f3_7 := qz.free 7
   have c3_8 := qz.cv 8 (.int .i64 g3) rfl
   have f3_8 := qz.free 8
   clear qz
   obtain ⟨c2_0, c2_1, c2_2, c2_3, c2_4, c2_5, c2_6, c2_7, c2_8⟩ := (HF9.out.b 2 rfl).q9
   obtain ⟨f2_0, f2_1, f2_2, f2_3, f2_4, f2_5, f2_6, f2_7, f2_8⟩ := (HF9.out.b 2 rfl).r9
   have c1_5 := (HF9.out.b 1 rfl).cv 5 (.int .i64 ssh) rfl
   replace HO := hid (oS9 HO.out (HF9.out.b 3 rfl) (by decide) 5 (.slice A7 L4.length c7))
   have HF7 := hid (HF9.out.st 3 rfl 5 (.slice A7 L4.length c7))
   clear HF9
   replace HO := hid (oS9 HO.out (HF7.out.b 3 rfl) (by decide) 4 (.int .i64 ssh))
   have HF8 := hid (HF7.out.st 3 rfl 4 (.int .i64 ssh))
   clear HF7
   go_wp2_with fail
   obtain rfl := HZZ.out
   have hg := HF8.out.ge 2 rfl
   refine bodyPost_ret (v := .tuple #[.agg #[.int .i64 vc, .int .i64 vt, .int .i64 vs, .int .i64 g0, .int .i64 ssh, .slice A7 L4.length c7, .int .i64 g1, .int .i64 g2, .int .i64 g3], .int .i64 0]) (by simp [results, results90, go_sem, c2_0, c2_1, c2_2, c2_3, c2_4, c2_5, c2_6, c2_7, c2_8]) rfl ⟨Or.inl ⟨HE.out, A7, c7, ?_, ?_⟩, ?_⟩
   ·
    rfl
   ·
    exact own_st9 HO.out (HF8.out.b 2 rfl) (by decide) (.int .i64 vc) (.int .i64 vt) (.int .i64 vs) (.int .i64 g0) (.int .i64 ssh) (.slice A7 L4.length c7) (.int .i64 g1) (.int .i64 g2) (.int .i64 g3)
   ·
    exact st9 HF8.out.bl hg (.int .i64 vc) (.int .i64 vt) (.int .i64 vs) (.int .i64 g0) (.int .i64 ssh) (.slice A7 L4.length c7) (.int .i64 g1) (.int .i64 g2) (.int .i64 g3)
  ·
   --<<
   have HE := hid H7.out
   have HN0 : Hid (re ≠ 0) := by unfold Hid; rw [HE.out]; exact h0
   have tr : (E4 != 0) = true := by simpa using h0
   have HF9 := hid (HFa.out.ca hb)
   clear h0 hb HZ H7 K4 c0_5 c1_6 HFa
   obtain ⟨c0_0, c0_1, c0_2, c0_3, c0_4, c0_5, c0_6, c0_7, c0_8⟩ := (HF9.out.b 0 rfl).q9
   obtain ⟨c2_0, c2_1, c2_2, c2_3, c2_4, c2_5, c2_6, c2_7, c2_8⟩ := (HF9.out.b 2 rfl).q9
   obtain ⟨f2_0, f2_1, f2_2, f2_3, f2_4, f2_5, f2_6, f2_7, f2_8⟩ := (HF9.out.b 2 rfl).r9
   have c3_5 := (HF9.out.b 3 rfl).cv 5 (.slice A n c) rfl
   have f3_5 := (HF9.out.b 3 rfl).free 5
   have HF7 := hid (HF9.out.st 3 rfl 5 (.slice none 0 0))
   clear HF9
   obtain ⟨c0_0_7, c0_1_7, c0_2_7, c0_3_7, c0_4_7, c0_5_7, c0_6_7, c0_7_7, c0_8_7⟩ := (HF7.out.b 0 rfl).q9
   obtain ⟨c2_0_7, c2_1_7, c2_2_7, c2_3_7, c2_4_7, c2_5_7, c2_6_7, c2_7_7, c2_8_7⟩ := (HF7.out.b 2 rfl).q9
   obtain ⟨f2_0_7, f2_1_7, f2_2_7, f2_3_7, f2_4_7, f2_5_7, f2_6_7, f2_7_7, f2_8_7⟩ := (HF7.out.b 2 rfl).r9
   go_wp2_with fail
   refine bodyPost_ret (v := .tuple #[.agg #[.int .i64 bc, .int .i64 bt, .int .i64 bs, .int .i64 tx, .int .i64 sh, .slice A n c, .int .i64 net, .int .i64 tk, .int .i64 py], .int .i64 E4]) (by simp [results, results90, go_sem, c2_0, c2_1, c2_2, c2_3, c2_4, c2_5, c2_6, c2_7, c2_8, c2_0_7, c2_1_7, c2_2_7, c2_3_7, c2_4_7, c2_5_7, c2_6_7, c2_7_7, c2_8_7]) rfl ⟨Or.inr ⟨HN0.out, by rw [HE.out]⟩, ?_⟩
   have hg := HF7.out.ge 2 rfl
   exact st9 HF7.out.bl hg (.int .i64 bc) (.int .i64 bt) (.int .i64 bs) (.int .i64 tx) (.int .i64 sh) (.slice A n c) (.int .i64 net) (.int .i64 tk) (.int .i64 py)
   -->>
end Go.Proofs.YtiaabmhjkoohmaaGreat
