/-
 Contract of an employee's Replace. Conditions as named.
-/
import Derived.Test.YtiaabmhjkoohmaaGreatM7
namespace Go.Proofs.YtiaabmhjkoohmaaGreat
set_option maxRecDepth 100000
set_option maxHeartbeats 25600000
set_option linter.unusedVariables false
set_option linter.unusedSimpArgs false
open Go.RowKit Tryz
open Lib (hid)
def RepR (re : Int) (E' : Em) (lo : Nat) (fq days : Int) (p y o : Nat) (w : World) (e : Ending) (w' : World) : Prop :=
 e = .returned (.int .i64 re) ∧ (∃ li, Ea9 w' lo li fq days p y o E') ∧ Kp w.heap.size (fx2 p o) w w' ∧ (re ≠ 0 → w'.cell? ⟨p, 13, none⟩ = w.cell? ⟨p, 13, none⟩) ∧ (re = 0 → ∃ g n c, w'.cell? ⟨p, 13, none⟩ = some (.slice (some ⟨g, 0, none⟩) n c) ∧ w.heap.size ≤ g)
theorem osz {w : World} {base size n c : Nat} {e : TypeId} {A : Option Addr} {xs : List Value} (h : w.ownsRow base e size (.slice A n c) n xs) (hn : 0 < n) : ∃ g, A = some ⟨g, 0, none⟩ ∧ base ≤ g ∧ (∀ j, j < n * size → w.cell? ⟨g, j, none⟩ = xs[j]?) ∧ (∀ j, w.frozen? ⟨g, j, none⟩ = false) ∧ ∃ cs, Blk w g e cs := by
 obtain ⟨h1, h2 | ⟨g', cap', cur, hv, hb, hg, hle, hm, hs, ht⟩⟩ := h
 ·
  omega
 ·
  injection hv with hA _ hc
  subst hA
  refine ⟨g', rfl, hb, fun j hj => ?_, fun j => Blk.free (t := e) (cs := cur) hg j, cur, hg⟩
  rw [show w.cell? ⟨g', j, none⟩ = cur[j]? from Blk.cell (t := e) hg j, ← ht, List.getElem?_take_of_lt hj, Array.getElem?_toList]
theorem fkz {α : Type} (f : α → List Value) (K : Nat) (d : α) (hf : ∀ x, (f x).length = K) : ∀ (l : List α) (k j : Nat) (u : Value), k < l.length → j < K → (f (l.getD k d))[j]? = some u → (l.flatMap f)[k * K + j]? = some u := by
 intro l
 induction l with
 | nil => intro k j u hk; exact absurd hk (by simp)
 | cons x l ih =>
  intro k j u hk hj hu
  rw [List.flatMap_cons]
  cases k with
  | zero =>
   simp at hu
   rw [List.getElem?_append_left (by rw [hf]; omega)]
   simpa using hu
  | succ k =>
   rw [List.getElem?_append_right (by rw [hf, Nat.succ_mul]; omega), hf, show (k + 1) * K + j - K = k * K + j by rw [Nat.succ_mul]; omega]
   exact ih k j u (by simpa using hk) hj (by simpa using hu)
theorem putIn_nat (l : List In) (k : Nat) (els : List El) : putIn l ((k : Int) + 1) els = l.set k ⟨(l.getD k in0).c, els⟩ := by
 unfold putIn
 have : ((k : Int) + 1).toNat - 1 = k := by omega
 rw [this]
theorem getD_mapz (L : List InP) (k : Nat) : (L.map InP.z).getD k in0 = (L.getD k inp0).z := by
 rw [List.getD_eq_getElem?_getD, List.getElem?_map, List.getD_eq_getElem?_getD]
 cases L[k]? <;> rfl
theorem Iw9.grown {w w' : World} {lo base : Nat} {A : Option Addr} {n c : Nat} {l : List In} (h : Iw9 w lo base A n c l) {g : Nat} {t : TypeId} {cs : Array Value} (hk : Blk w g t cs) (h1 : 67 ≠ t) (h2 : 98 ≠ t) (hg : w.grownBy w' (some g)) : Iw9 w' lo base A n c l := by
 obtain ⟨L, e1, e2, e3, e4⟩ := h.ex
 exact ⟨L, e1, e2, e3.kept hg (Or.inr (obz e3 hk h1).symm), fun q hq => ⟨(e4 q hq).1, (e4 q hq).2.kept hg (Or.inr (obz (e4 q hq).2 hk h2).symm)⟩⟩
theorem Iw9.putEl {W : World} {lo base g n c : Nat} {L : List InP} {l : List In} (h1 : L.map InP.z = l) (h2 : n = L.length) (h3 : W.ownsRow base 67 6 (.slice (some ⟨g, 0, none⟩) n c) n (L.flatMap inPC)) (h4 : ∀ q ∈ L, q.n = q.z.l.length ∧ W.ownsRow lo 98 3 (.slice q.A q.n q.k) q.n (q.z.l.flatMap elC))
  {k m d : Nat} {B : Option Addr} {els : List El} (hk : k < n) (hm : m = els.length) (h5 : W.ownsRow lo 98 3 (.slice B m d) m (els.flatMap elC)) :
  Iw9 (W.setCell ⟨g, k * 6 + 5, none⟩ (.slice B m d)) lo base (some ⟨g, 0, none⟩) n c (putIn l ((k : Int) + 1) els) := by
 obtain ⟨g', hg, _, _, _, cs, hb⟩ := osz h3 (by omega)
 injection hg with hg
 injection hg with hg
 subst hg
 have hgr := gJ9 W g (k * 6 + 5) (.slice B m d)
 have ke : ∀ {base : Nat} {v : Value} {n : Nat} {xs : List Value}, W.ownsRow base 98 3 v n xs → (W.setCell ⟨g, k * 6 + 5, none⟩ (.slice B m d)).ownsRow base 98 3 v n xs := fun h => oS9 h hb (by decide) _ _
 refine ⟨L.set k ⟨⟨(L.getD k inp0).z.c, els⟩, B, m, d⟩, ?_, by rw [List.length_set]; exact h2, ?_, fun q hq => ?_⟩
 ·
  rw [List.map_set, h1, putIn_nat, ← h1, getD_mapz]
 ·
  rw [← flat_set inPC 6 ilz 5 (.slice B m d) (by decide) L k _ inp0 (by omega) rfl]
  exact own_setR h3 (k * 6 + 5) (by omega) _
 ·
  rcases List.mem_or_eq_of_mem_set hq with hq | rfl
  ·
   exact ⟨(h4 q hq).1, ke (h4 q hq).2⟩
  ·
   exact ⟨hm, ke h5⟩
--%
theorem rrepl_c (fq days : Int) (lo li p y o : Nat) (E : Em) (k : Int) (A : Option Addr) (m c : Nat) (l : List El) (w : World) (h : Ea9 w lo li fq days p y o E) (hk : EmOK fq days E) (hl : ElSl w A m l) (hm : m ≤ 1000) (re : Int) (E' : Em) (he : Hid (re = replE E (nIz fq) (cntI fq days) k l)) (h1 : Hid (re = 0 → E' = replV E k l)) (h2 : Hid (re ≠ 0 → E' = E)) :
  Calls prog 57 #[.pointer (some ⟨p, 0, none⟩), .int .i64 k, .slice A m c] w (RepR re E' lo fq days p y o w) := by
 have HF0 := hid (Fr.start w)
 have HE := hid h
 obtain ⟨K, ns, nc, nk, nn, ni, hns, hnc, hnk, hnn, hni, hB, hR⟩ := h.letters
 have HB := hid hB
 have HRW := hid hR
 have HNS := hid hns
 have HNC := hid hnc
 have HNK := hid hnk
 have HNN := hid hnn
 have HNI := hid hni
 have HLT : Hid (p < w.heap.size) := hB.lt
 obtain ⟨n1, n2, n3⟩ := h.diff
 have HN1 := hid n1
 have HN2 := hid n2
 have HLO : Hid (lo ≤ w.heap.size) := by have := h.lp; have := HLT.out; unfold Hid; omega
 unfold RepR
 have d13 := HB.out.cv 13 (.slice K.Ai ni K.ci) rfl
 by_cases hk1 : k < 1
 case pos =>
  have HE0 : Hid (re = 230) := he.out.trans (by unfold replE; rw [if_pos (Or.inl hk1)])
  have HN0 : Hid ((230 : Int) ≠ 0) := by unfold Hid; decide
  have t1 : decide (k < 1) = true := by simpa using hk1
  clear h hk hl hm n1 n2 n3 he hk1 h1
  clear hns hnc hnk hnn hni hB hR
  go_enter func57, ntmps57
  go_wp2_with fail
  refine bodyPost_ret (v := .int .i64 230) (by simp [results, results57, go_sem]) rfl ⟨by rw [HE0.out], ⟨li, ?_⟩, Kp.below HF0.out.bl (Nat.le_refl _), fun _ => c13 HB.out (HB.out.t HF0.out.bl) rfl, fun h0 => absurd (HE0.out.symm.trans h0) HN0.out⟩
  rw [h2.out (by rw [HE0.out]; exact HN0.out)]
  exact HE.out.below HF0.out.bl
 by_cases hk2 : (ni : Int) < k
 case pos =>
  have HE0 : Hid (re = 230) := he.out.trans (by unfold replE; rw [if_pos (Or.inr (by rw [← hni]; exact hk2))])
  have HN0 : Hid ((230 : Int) ≠ 0) := by unfold Hid; decide
  have t1 : decide (k < 1) = false := by simpa using hk1
  have t2 : decide ((ni : Int) < k) = true := by simpa using hk2
  have t3 : decide (k > (ni : Int)) = true := by simpa using hk2
  clear h hk hl hm n1 n2 n3 he hk1 hk2 h1
  clear hns hnc hnk hnn hni hB hR
  go_enter func57, ntmps57
  go_wp2_with fail
  refine bodyPost_ret (v := .int .i64 230) (by simp [results, results57, go_sem]) rfl ⟨by rw [HE0.out], ⟨li, ?_⟩, Kp.below HF0.out.bl (Nat.le_refl _), fun _ => c13 HB.out (HB.out.t HF0.out.bl) rfl, fun h0 => absurd (HE0.out.symm.trans h0) HN0.out⟩
  rw [h2.out (by rw [HE0.out]; exact HN0.out)]
  exact HE.out.below HF0.out.bl
 obtain ⟨kn, rfl⟩ : ∃ kn : Nat, k = (kn : Int) + 1 := ⟨(k - 1).toNat, by omega⟩
 have t1 : decide ((kn : Int) + 1 < 1) = false := decide_eq_false (by omega)
 have t2 : decide ((ni : Int) < (kn : Int) + 1) = false := by simpa using hk2
 have t3 : decide ((kn : Int) + 1 > (ni : Int)) = false := by simpa using hk2
 have hkn : kn < ni := by omega
 have kk0 : (0 : Int) ≤ (kn : Int) := by omega
 have kk1 : (kn : Int) < (ni : Int) := by omega
 have kk2 : ((kn : Int)).toNat = kn := by omega
 have h53 := hk.ins53
 have hir := hk.ins
 rw [← hni] at h53 hir
 obtain ⟨E1, hE1⟩ : ∃ E1, E1 = openE E (cntI fq days) := ⟨_, rfl⟩
 obtain ⟨E2, hE2⟩ : ∃ E2, E2 = kAz E.tb.kds l m := ⟨_, rfl⟩
 obtain ⟨E3, hE3⟩ : ∃ E3, E3 = rEz E.tb (nIz fq) 0 (putIn E.ins ((kn : Int) + 1) l) := ⟨_, rfl⟩
 obtain ⟨V3, hV3⟩ : ∃ V3, V3 = reckV E.tb (nIz fq) 0 (putIn E.ins ((kn : Int) + 1) l) := ⟨_, rfl⟩
 have hml := hl.1
 have H1 : Hid (re = sqz E1 (sqz E2 E3)) := he.out.trans (by unfold replE; rw [if_neg (by rw [← hni]; omega), hE1, hE2, hE3, hml])
 have K1 := hid (fun W (hW : Below w.heap.size w W) => ropen_c fq days lo li p y o E W (h.below hW) hk)
 rw [← hE1] at K1
 unfold ValB at K1
 have KK := hid (fun W (hW : Below w.heap.size w W) => eall_c E.tb.kds K.As K.Ac K.Ak ns K.cs nc K.cc nk K.ck E.tb.lim E.tb.rnd A m c l W (by rw [hnk]; exact hR.tb.view.k.below hW) (hl.below hW) E2 hE2)
 have KE := hid (fun W (hW : Below w.heap.size w W) => clone_el A m c l W (hl.below hW) (by omega))
 obtain ⟨L, hL1, hL2, hL3, hL4⟩ := hR.ins.ex
 rw [← hni] at hL2 hL3
 have KI := hid (fun W (hW : Below w.heap.size w W) => clone_inp K.Ai ni K.ci L W ((ow9 ilz hL3 hL2 (by omega) (by decide)).below hW) (by omega))
 have HL4 : Hid (∀ W, Below w.heap.size w W → ∀ q ∈ L, q.n = q.z.l.length ∧ W.ownsRow lo 98 3 (.slice q.A q.n q.k) q.n (q.z.l.flatMap elC)) := fun W hW q hq => ⟨(hL4 q hq).1, oB9 (hL4 q hq).2 hW⟩
 unfold CloneV at KE KI
 have KR := hid (fun W (hW : Below w.heap.size w W) (A5 : Option Addr) (c5 : Nat) (hin : Inz W A5 ni (putIn E.ins ((kn : Int) + 1) l)) => (reckon_c E.tb K.As K.Ac K.Ak A5 ns K.cs nc K.cc nk K.ck ni c5 E.tb.lim E.tb.rnd fq days K.gy 0 (putIn E.ins ((kn : Int) + 1) l) W (by rw [hns]; exact hR.tb.view.s.below hW) (by rw [hnc]; exact hR.tb.view.c.below hW) (by rw [hnk]; exact hR.tb.view.k.below hW) rfl hk.tb hk.f hk.d (hR.gy.t hW) hin (by omega) E3 V3 hE3 hV3).mono fun _ _ h => h.v hW.size)
 unfold ReckR clC at KR
 have HL1 := hid hL1
 have HL2 := hid hL2
 have HML := hid hml
 have HKN := hid hkn
 have HPI : Hid ((putIn E.ins ((kn : Int) + 1) l).length = ni) := by unfold Hid putIn; rw [List.length_set]; exact hni.symm
 have HW2 : Hid (wrap64 (kn : Int) = (kn : Int)) := by unfold Hid wrap64; omega
 clear h hk hl hm n1 n2 n3 he hE1 hE2 hE3 hV3 hk1 hk2 hkn h53 hir hml hL1 hL2 hL3 hL4
 clear hns hnc hnk hnn hni hB hR
 go_enter func57, ntmps57
 go_wp2_with fail
 refine (K1.out _ HF0.out.bl).mono ?_
 rintro e W1 ⟨rfl, hb⟩
 have HF1 := hid (HF0.out.ca hb)
 clear hb HF0
 clear d13 t1 t2 t3
 by_cases h0 : E1 = 0
 case neg =>
  have tr : (E1 != 0) = true := by simpa using h0
  have HE0 : Hid (re = E1) := H1.out.trans (sN9 h0)
  have HN0 : Hid (E1 ≠ 0) := h0
  clear h0
  go_wp2_with fail
  refine bodyPost_ret (v := .int .i64 E1) (by simp [results, results57, go_sem]) rfl ⟨by rw [HE0.out], ⟨li, ?_⟩, Kp.below HF1.out.bl (Nat.le_refl _), fun _ => c13 HB.out (HB.out.t HF1.out.bl) rfl, fun h0 => absurd (HE0.out.symm.trans h0) HN0.out⟩
  rw [h2.out (by rw [HE0.out]; exact HN0.out)]
  exact HE.out.below HF1.out.bl
 have H2 := hid (H1.out.trans (sE9 h0))
 subst h0
 have qz := HB.out.t HF1.out.bl
 have dd0 := qz.cv 0 (.slice K.As ns K.cs) rfl
 have dd1 := qz.cv 1 (.slice K.Ac nc K.cc) rfl
 have dd2 := qz.cv 2 (.slice K.Ak nk K.ck) rfl
 have dd3 := qz.cv 3 (.int .i64 E.tb.lim) rfl
 have dd4 := qz.cv 4 (.int .i64 E.tb.rnd) rfl
 clear qz
 go_wp2_with fail
 refine (KK.out _ HF1.out.bl).mono ?_
 rintro e W2 ⟨rfl, hb⟩
 clear dd0 dd1 dd2 dd3 dd4
 have HF2 := hid (HF1.out.ca hb)
 clear hb HF1
 by_cases h0 : E2 = 0
 case neg =>
  have tr : (E2 != 0) = true := by simpa using h0
  have HE0 : Hid (re = E2) := H2.out.trans (sN9 h0)
  have HN0 : Hid (E2 ≠ 0) := h0
  clear h0
  go_wp2_with fail
  refine bodyPost_ret (v := .int .i64 E2) (by simp [results, results57, go_sem]) rfl ⟨by rw [HE0.out], ⟨li, ?_⟩, Kp.below HF2.out.bl (Nat.le_refl _), fun _ => c13 HB.out (HB.out.t HF2.out.bl) rfl, fun h0 => absurd (HE0.out.symm.trans h0) HN0.out⟩
  rw [h2.out (by rw [HE0.out]; exact HN0.out)]
  exact HE.out.below HF2.out.bl
 have H3 := hid (H2.out.trans (sE9 h0))
 subst h0
 have dd13 := (HB.out.t HF2.out.bl).cv 13 (.slice K.Ai ni K.ci) rfl
 go_wp2_with fail
 refine (KI.out _ HF2.out.bl).mono ?_
 rintro e W3 ⟨⟨A9, c9, rfl, ho9⟩, hb⟩
 obtain ⟨g9, rfl, hg9, hc9, hf9, _⟩ := osz ho9 (by have := HKN.out; omega)
 have HO9 := hid (oM9 ho9 HF2.out.bl.size)
 have HG9 : Hid (w.heap.size ≤ g9) := Nat.le_trans HF2.out.bl.size hg9
 clear ho9 hg9 hc9 hf9
 clear dd13
 have HF5 := hid (HF2.out.ca hb)
 clear hb HF2
 go_wp2_with fail
 refine (KE.out _ HF5.out.bl).mono ?_
 rintro e W4 ⟨⟨A5, c5, rfl, ho5⟩, hb⟩
 have HO5 := hid (oM9 ho5 (Nat.le_trans HLO.out HF5.out.bl.size))
 replace HO9 := hid (oB9 HO9.out hb)
 have HF6 := hid (HF5.out.ca hb)
 clear hb ho5 HF5
 obtain ⟨g9', hgg, _, hc9, hf9, cs9, hB9⟩ := osz HO9.out (by have := HKN.out; omega)
 injection hgg with hgg
 injection hgg with hgg
 subst hgg
 have HB9 := hid hB9
 clear hB9
 have x9 : W4.cell? ⟨g9, 0 + kn * 6 + 5, none⟩ = some (.slice (L.getD kn inp0).A (L.getD kn inp0).n (L.getD kn inp0).k) := by
  rw [Nat.zero_add, hc9 (kn * 6 + 5) (by have := HKN.out; omega)]
  exact fkz inPC 6 inp0 ilz L kn 5 _ (by have := HKN.out; have := HL2.out; omega) (by decide) rfl
 have f9 : W4.frozen? ⟨g9, 0 + kn * 6 + 5, none⟩ = false := hf9 _
 have x9b := x9
 have f9b := f9
 rw [Nat.zero_add] at x9b f9b
 clear hc9 hf9
 have hw2 := HW2.out
 go_upto_region 11 with fail
 clear hw2 HW2
 have HINS : Hid (Iw9 (W4.setCell ⟨g9, kn * 6 + 5, none⟩ (.slice A5 m c5)) lo w.heap.size (some ⟨g9, 0, none⟩) ni c9 (putIn E.ins ((kn : Int) + 1) l)) := Iw9.putEl HL1.out HL2.out HO9.out (HL4.out W4 HF6.out.bl) HKN.out HML.out HO5.out
 have HBL : Hid (Below w.heap.size w (W4.setCell ⟨g9, kn * 6 + 5, none⟩ (.slice A5 m c5))) := HF6.out.bl.grown (gJ9 W4 g9 (kn * 6 + 5) (.slice A5 m c5)) HF6.out.bl.size (fun k hk => by injection hk with hk; rw [← hk]; exact HG9.out)
 have HF7 : Hid (Fr w (W4.setCell ⟨g9, kn * 6 + 5, none⟩ (.slice A5 m c5)) []) := ⟨HBL.out, fun i x hi => by simp at hi, List.Pairwise.nil⟩
 clear HF6 HBL HB9 HO9 HO5 HL4 KE KI x9 f9 x9b f9b
 try rw [Nat.zero_add]
 generalize hw7 : W4.setCell ⟨g9, kn * 6 + 5, none⟩ (.slice A5 m c5) = w7 at *
 clear hw7
 have HIN := hid HINS.out.view
 go_cut [10, 11] (fun y0 y1 wx => ∃ (g : Nat) (per : List Bs) (sc st ss ctx : Int) (csh : List Sh) (A1 : Option Addr) (n1 a1 : Nat) (C1 : Option Addr) (m1 b1 : Nat), y0 = .pointer (some ⟨g, 0, none⟩) ∧ y1 = .int .i64 E3 ∧ Hid (Fr w wx [(g, 121, #[.slice A1 n1 a1, .int .i64 sc, .int .i64 st, .int .i64 ss, .int .i64 ctx, .slice C1 m1 b1])]) ∧ Hid (Iw9 wx lo w.heap.size (some ⟨g9, 0, none⟩) ni c9 (putIn E.ins ((kn : Int) + 1) l)))
 case first =>
  go_wp2_with fail
  have G : Hid (∀ W, Fr w W [] → Below w.heap.size w W ∧ (W.cell? ⟨p, 0, none⟩ = some (.slice K.As ns K.cs) ∧ W.cell? ⟨p, 1, none⟩ = some (.slice K.Ac nc K.cc) ∧ W.cell? ⟨p, 2, none⟩ = some (.slice K.Ak nk K.ck) ∧ W.cell? ⟨p, 3, none⟩ = some (.int .i64 E.tb.lim) ∧ W.cell? ⟨p, 4, none⟩ = some (.int .i64 E.tb.rnd) ∧ W.cell? ⟨p, 5, none⟩ = some (.pointer (some ⟨K.gy, 0, none⟩)))) := fun W hW => ⟨hW.bl, (HB.out.t hW.bl).cv 0 _ rfl, (HB.out.t hW.bl).cv 1 _ rfl, (HB.out.t hW.bl).cv 2 _ rfl, (HB.out.t hW.bl).cv 3 _ rfl, (HB.out.t hW.bl).cv 4 _ rfl, (HB.out.t hW.bl).cv 5 _ rfl⟩
  replace HINS := hid (HINS.out.below (b0 _).drew)
  have HF3 := hid (HF7.out.dr)
  refine wG9 G 16 (by kernel_rfl) HF3.out (fun hH9 => ?_)
  refine tkG 0 (h := ?_)
  refine tkG 1 (h := ?_)
  refine tkG 2 (h := ?_)
  refine tkG 3 (h := ?_)
  refine tkG 4 (h := ?_)
  refine tkG 5 (h := ?_)
  refine tkG 6 (h := ?_)
  refine tkG 7 (h := ?_)
  refine tkG 8 (h := ?_)
  refine w2z (i := 9) (j := 13) (by kernel_rfl) rfl rfl (fun Kx hK => ?_) (fun Kx hK => ?_)
  ·
   go_simp
   go_at_call 52
   refine (KR.out _ HF3.out.bl _ c9 (HINS.out.view)).mono ?_
   rintro e W5 ⟨⟨⟨per, ⟨sc, st, ss⟩, ctx, csh⟩, A1, n1, a1, C1, m1, b1, rfl, hq⟩, hb⟩
   replace HINS := hid (HINS.out.below hb)
   have HF4 := hid (HF3.out.ca hb)
   clear hq
   clear hb
   refine shG hK (G.out _ HF4.out) (h := fun hH9 => ?_)
   clear hK Kx
   refine tkG 10 (h := ?_)
   refine tkG 11 (h := ?_)
   refine tkG 12 (h := ?_)
   refine tkO 13 (h := fun Kx hK => ?_)
   go_simp
   have HINS_ := HINS
   replace HINS := hid (HINS.out.below (bz1 _ (.cells #[.slice none 0 0, .int .i64 0, .int .i64 0, .int .i64 0, .int .i64 0, .slice none 0 0] 121)))
   have HF5 := al8 (HF4.out.al 121 #[.slice none 0 0, .int .i64 0, .int .i64 0, .int .i64 0, .int .i64 0, .slice none 0 0])
   refine shG hK (G.out _ (HF5.out.cut 0)) (h := fun hH9 => ?_)
   clear hK Kx
   refine tkO 14 (h := fun Kx hK => ?_)
   go_simp
   replace HINS := hid (HINS_.out.below (bz1 _ (.cells #[.slice A1 n1 a1, .int .i64 sc, .int .i64 st, .int .i64 ss, .int .i64 ctx, .slice C1 m1 b1] 121)))
   have HF6 := al8 (HF4.out.al 121 #[.slice A1 n1 a1, .int .i64 sc, .int .i64 st, .int .i64 ss, .int .i64 ctx, .slice C1 m1 b1])
   refine shG hK (G.out _ (HF6.out.cut 0)) (h := fun hH9 => ?_)
   clear hK Kx
   refine tkG 15 (h := ?_)
   refine wD9 (by kernel_rfl) ?_ _
   clear G hH9
   try simp only [Exit.then]
   go_wp2_with fail
   go_meet
   refine ⟨_, per, sc, st, ss, ctx, csh, A1, n1, a1, C1, m1, b1, rfl, rfl, hid (HF6.out), HINS⟩
  ·
   go_simp
   have HINS_ := HINS
   replace HINS := hid (HINS.out.below (bz1 _ (.cells #[.slice none 0 0, .int .i64 0, .int .i64 0, .int .i64 0, .int .i64 0, .slice none 0 0] 121)))
   have HF4 := al8 (HF3.out.al 121 #[.slice none 0 0, .int .i64 0, .int .i64 0, .int .i64 0, .int .i64 0, .slice none 0 0])
   refine shG hK (G.out _ (HF4.out.cut 0)) (h := fun hH9 => ?_)
   clear hK Kx
   refine tkO 9 (h := fun Kx hK => ?_)
   go_simp
   go_at_call 52
   refine (KR.out _ HF4.out.bl _ c9 (HINS.out.view)).mono ?_
   rintro e W5 ⟨⟨⟨per, ⟨sc, st, ss⟩, ctx, csh⟩, A1, n1, a1, C1, m1, b1, rfl, hq⟩, hb⟩
   replace HINS := hid (HINS.out.below hb)
   have HF5 := hid (HF4.out.ca hb)
   clear hq
   clear hb
   refine shG hK (G.out _ (HF5.out.cut 0)) (h := fun hH9 => ?_)
   clear hK Kx
   refine tkG 10 (h := ?_)
   refine tkG 11 (h := ?_)
   refine tkG 12 (h := ?_)
   refine tkO 14 (h := fun Kx hK => ?_)
   obtain ⟨sk0, sk1, sk2, sk3, sk4, sk5, sf0, sf1, sf2, sf3, sf4, sf5⟩ := (HF5.out.b 0 rfl).af6
   go_simp
   replace HINS := hid (HINS.out.grown (HF5.out.b 0 rfl) (by decide) (by decide) (put6_gr _ _ (.slice A1 n1 a1) (.int .i64 sc) (.int .i64 st) (.int .i64 ss) (.int .i64 ctx) (.slice C1 m1 b1)))
   have HF6 := hid (HF5.out.put6 0 rfl (.slice A1 n1 a1) (.int .i64 sc) (.int .i64 st) (.int .i64 ss) (.int .i64 ctx) (.slice C1 m1 b1))
   clear sk0 sk1 sk2 sk3 sk4 sk5 sf0 sf1 sf2 sf3 sf4 sf5
   refine shG hK (G.out _ (HF6.out.cut 0)) (h := fun hH9 => ?_)
   clear hK Kx
   refine tkG 15 (h := ?_)
   refine wD9 (by kernel_rfl) ?_ _
   clear G hH9
   try simp only [Exit.then]
   go_wp2_with fail
   go_meet
   refine ⟨_, per, sc, st, ss, ctx, csh, A1, n1, a1, C1, m1, b1, rfl, rfl, hid (HF6.out), HINS⟩
 case rest =>
  obtain ⟨g3, per, sc, st, ss, ctx, csh, A1, n1, a1, C1, m1, b1, rfl, rfl, HFc, HC3_0⟩ := hcut
  have HF3 := HFc
  clear HFc HF7
  rename World => wx
  have HINS := HC3_0
  clear HC3_0 KR
  by_cases h0 : E3 = 0
  case neg =>
   have tr : (E3 != 0) = true := by simpa using h0
   have HE0 : Hid (re = E3) := H3.out
   have HN0 : Hid (E3 ≠ 0) := h0
   clear h0
   go_wp2_with fail
   refine bodyPost_ret (v := .int .i64 E3) (by simp [results, results57, go_sem]) rfl ⟨by rw [HE0.out], ⟨li, ?_⟩, Kp.below HF3.out.bl (Nat.le_refl _), fun _ => c13 HB.out (HB.out.t HF3.out.bl) rfl, fun h0 => absurd (HE0.out.symm.trans h0) HN0.out⟩
   rw [h2.out (by rw [HE0.out]; exact HN0.out)]
   exact HE.out.below HF3.out.bl
  have H4 := hid (H3.out.trans h0)
  subst h0
  have HBK := hid (HB.out.t HF3.out.bl)
  have HF := hid HF3.out.bl
  clear HF3
  have p13 := HBK.out.cv 13 (.slice K.Ai ni K.ci) rfl
  have q13 := HBK.out.free 13
  go_wp2_with fail
  have hgr := gJ9 wx p 13 (.slice (some ⟨g9, 0, none⟩) ni c9)
  have ty := Ty.one HBK.out (by decide : mtB 109 = true)
  have kp : Kp wx.heap.size (fun g => g = p) wx (wx.setCell ⟨p, 13, none⟩ (.slice (some ⟨g9, 0, none⟩) ni c9)) := Kp.grown hgr (Nat.le_refl _) (fun k hk => by injection hk with hk; exact Or.inr hk.symm)
  have hb := HBK.out.setJ 13 (.slice (some ⟨g9, 0, none⟩) ni c9)
  refine bodyPost_ret (v := .int .i64 0) (by simp [results, results57, go_sem]) rfl ⟨by rw [H4.out], ⟨w.heap.size, ?_⟩, kp_one HF.out hgr (Or.inl rfl), fun h0 => absurd H4.out h0, fun _ => ⟨g9, ni, c9, hb.cv 13 _ rfl, HG9.out⟩⟩
  rw [h1.out H4.out]
  refine ⟨⟨⟨K.As, K.cs, K.Ac, K.cc, K.Ak, K.ck, K.gy, K.An, K.cn, some ⟨g9, 0, none⟩, c9⟩, ?_, ?_⟩, HE.out.lp, HE.out.ly, HE.out.lo', HLO.out⟩
  ·
   unfold emC replV
   dsimp only
   rw [← HNS.out, ← HNC.out, ← HNK.out, ← HNN.out, HPI.out]
   exact hb
  ·
   obtain ⟨a1, a2, a3, a4, a5, a6⟩ := (HRW.out.below HF.out).at_p HBK.out hgr HN1.out HN2.out
   refine ⟨a1, a2, a3, ?_, a5, a6⟩
   show Iw9 _ lo w.heap.size (some ⟨g9, 0, none⟩) (putIn E.ins ((kn : Int) + 1) l).length c9 (putIn E.ins ((kn : Int) + 1) l)
   rw [HPI.out]
   exact HINS.out.fx ty kp
end Go.Proofs.YtiaabmhjkoohmaaGreat
