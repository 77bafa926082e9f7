/-
  Contracts of functions that the claim reaches, and the plain laws behind them. Conditions as named in each.
-/
import Derived.Test.YtiaabmhjkoohmaaGreatSoc4
import Derived.Test.YtiaabmhjkoohmaaGreatBook5
import Derived.BigRegion
import Derived.Laws.CopyRow
namespace Go.Proofs.YtiaabmhjkoohmaaGreat
set_option maxRecDepth 100000
set_option maxHeartbeats 25600000
set_option linter.unusedVariables false
set_option linter.unusedSimpArgs false
open Go.RowKit Tryz
open Lib (hid)
def RowR (E : Int) (L : List Sh) (w : World) (e : Ending) (w' : World) : Prop :=
 ((E = 0 ∧ ∃ v, e = .returned (.tuple #[v, .int .i64 0]) ∧ OwnS w' w.heap.size v L.length L) ∨ (E ≠ 0 ∧ e = .returned (.tuple #[.slice none 0 0, .int .i64 E]))) ∧ Below w.heap.size w w'
def lessAtE (x y : List Sh) (k : Nat) : Int := lessE (x.getD k sh0).a (x.getD k sh0).b (y.getD k sh0).a (y.getD k sh0).b
def lessAtV (x y : List Sh) (k : Nat) : Sh := lessV (x.getD k sh0).a (x.getD k sh0).b (y.getD k sh0).a (y.getD k sh0).b
def deltaE (x y : List Sh) : Int := if x.length = y.length then fz9 (lessAtE x y) x.length else 3
def dLz (x y : List Sh) (n : Nat) : List Sh := (List.range n).map (lessAtV x y)
theorem deltaL_next (x y : List Sh) (k : Nat) : dLz x y (k + 1) = dLz x y k ++ [lessAtV x y k] := by
 unfold dLz; rw [List.range_succ, List.map_append]; rfl
theorem deltaL_len (x y : List Sh) (n : Nat) : (dLz x y n).length = n := by simp [dLz]
theorem zero_box0 {w w2 : World} {t : TypeId} {cs : Array Value} (h : Below ((w.alloc (.cells cs t)).drew).heap.size ((w.alloc (.cells cs t)).drew) w2) : Blk w2 w.heap.size t cs :=
 Blk.below (w := (w.alloc (.cells cs t)).drew) (Blk.mk w t cs) h (by simp)
theorem sdelta_c (x y : List Sh) (A B : Option Addr) (n c m c' : Nat) (w : World) (hn6 : n ≤ 64) (hx : Sh9 w A n x) (hy : Sh9 w B m y) (E : Int) (L : List Sh) (hE : Hid (E = deltaE x y)) (hL : Hid (L = dLz x y n)) :
  Calls prog 87 #[.slice A n c, .slice B m c'] w (RowR E L w) := by
 have HN : Hid (n = x.length) := hx.1
 have HM : Hid (m = y.length) := hy.1
 have hn9 := hx.2.1
 have hm9 := hy.2.1
 by_cases hnm : n = m
 case neg =>
  have tn : ((n : Int) != (m : Int)) = true := by simp; omega
  have HE : Hid (E = 3) := hE.out.trans (by unfold deltaE; rw [if_neg (by rw [← HN.out, ← HM.out]; exact hnm)])
  clear hnm
  go_enter func87, ntmps87
  go_wp2_with fail
  refine bodyPost_ret (v := .tuple #[.slice none 0 0, .int .i64 3]) (by simp [results, results87, go_sem]) rfl ⟨Or.inr ⟨by rw [HE.out]; decide, by rw [HE.out]⟩, b0 _⟩
 subst hnm
 have HX := hid hx
 have HY := hid hy
 have HEE : Hid (E = fz9 (lessAtE x y) n) := hE.out.trans (by unfold deltaE; rw [if_pos (by rw [← HN.out, ← HM.out]), HN.out])
 clear hx hy hE
 go_enter func87, ntmps87
 go_wp2_with fail
 go_loopw [6, 17] (fun v i wr => ∃ k : Nat, k ≤ n ∧ i = .int .i64 k ∧ Hid (fz9 (lessAtE x y) k = 0) ∧ Hid (wr.ownsRow w.heap.size 79 2 v k ((dLz x y k).flatMap shC)) ∧ Hid (Below w.heap.size w wr)) (fun _ i _ => n - (intOf i).toNat)
 case atStart => exact ⟨0, Nat.zero_le _, rfl, rfl, World.ownsRow_nil _ _ _ _, b0 _⟩
 case round =>
  obtain ⟨k, hk', rfl, HZ, HO, HB⟩ := hrel
  by_cases hk : k < n
  case neg =>
   obtain rfl : n = k := by omega
   clear hk hk'
   go_wp2_with fail
   go_ret2
   refine ⟨Or.inl ⟨HEE.out.trans HZ.out, _, rfl, ?_⟩, HB.out⟩
   have hl := hL.out
   subst hl
   exact ⟨rfl, by rw [deltaL_len]; exact HO.out⟩
  obtain ⟨bx, ox, rfl, hltx, hatx⟩ := (HX.out.below HB.out).2.2 (by omega)
  obtain ⟨by', oy, rfl, hlty, haty⟩ := (HY.out.below HB.out).2.2 (by omega)
  obtain ⟨x0, x1⟩ := hatx k (by rw [← HN.out]; exact hk)
  obtain ⟨y0, y1⟩ := haty k (by rw [← HM.out]; exact hk)
  obtain ⟨r, hr⟩ : ∃ r, r = lessAtE x y k := ⟨_, rfl⟩
  obtain ⟨v, hv⟩ : ∃ v, v = lessAtV x y k := ⟨_, rfl⟩
  have KL := hid (fun W => less_c (x.getD k sh0).a (x.getD k sh0).b (y.getD k sh0).a (y.getD k sh0).b W r v hr hv)
  have HBAD : Hid (r ≠ 0 → E = r) := fun h => by
   rw [hr] at h ⊢
   exact HEE.out.trans (fS9 (lessAtE x y) k _ HZ.out h hk)
  have HNX : Hid (r = 0 → fz9 (lessAtE x y) (k + 1) = 0) := fun h => ft9 _ _ HZ.out (by rw [← hr]; exact h)
  have HDN : Hid (dLz x y (k + 1) = dLz x y k ++ [v]) := by rw [hv]; exact deltaL_next x y k
  clear hr hv hatx haty
  generalize x.getD k sh0 = xk at *
  generalize y.getD k sh0 = yk at *
  obtain ⟨xa, xb⟩ := xk
  obtain ⟨ya, yb⟩ := yk
  obtain ⟨va, vb⟩ := v
  dsimp only at x0 x1 y0 y1 KL
  have G : Hid (∀ W, Below wr.heap.size wr W → Below wr.heap.size wr W ∧ (W.cell? ⟨bx, ox + k * 2, none⟩ = some (.int .i64 xa) ∧ W.cell? ⟨bx, ox + k * 2 + 1, none⟩ = some (.int .i64 xb) ∧ W.cell? ⟨by', oy + k * 2, none⟩ = some (.int .i64 ya) ∧ W.cell? ⟨by', oy + k * 2 + 1, none⟩ = some (.int .i64 yb))) := fun W hW =>
   ⟨hW, (hW.cell (p := ⟨bx, ox + k * 2, none⟩) hltx).trans x0, (hW.cell (p := ⟨bx, ox + k * 2 + 1, none⟩) hltx).trans x1, (hW.cell (p := ⟨by', oy + k * 2, none⟩) hlty).trans y0, (hW.cell (p := ⟨by', oy + k * 2 + 1, none⟩) hlty).trans y1⟩
  go_wp2_with fail
  go_region_held3 (fun W => Below wr.heap.size wr W ∧ (W.cell? ⟨bx, ox + k * 2, none⟩ = some (.int .i64 xa) ∧ W.cell? ⟨bx, ox + k * 2 + 1, none⟩ = some (.int .i64 xb) ∧ W.cell? ⟨by', oy + k * 2, none⟩ = some (.int .i64 ya) ∧ W.cell? ⟨by', oy + k * 2 + 1, none⟩ = some (.int .i64 yb)))
   (first | assumption | exact G.out _ (b0 _).drew | exact G.out _ (bA (b0 _) _).drew | exact G.out _ (bA (bT (b0 _).drew hb2) _) | exact G.out _ (bT (bA (b0 _) _).drew hb2) | exact G.out _ (bSg (bSg (bT (bA (b0 _) _).drew hb2) (Nat.le_refl _) _ _) (Nat.le_refl _) _ _) | (exact sK G.out (by assumption) (by assumption)) | (exact sK G.out (by assumption) (bz1 _ _)))
   (first | (go_at_call 130; (with_reducible refine (KL.out _).mono ?_); rintro e w2 ⟨rfl, hb2⟩; (first | (have zb := zero_box0 hb2; obtain ⟨z0, z1, z2, z3⟩ := zb.all2) | skip)))
  all_goals
   have hB := (show Below wr.heap.size wr _ ∧ _ from by assumption).1
   have HBB := hid (bT HB.out hB)
   have hs5 := HBB.out.size
   first | (have hy := (zb.setJ 0 (.int .i64 va)).setJ 1 (.int .i64 vb)) | (have hy := Blk.mk w2 79 #[.int .i64 va, .int .i64 vb])
   have q0 := hy.cv 0 (.int .i64 va) rfl
   have q1 := hy.cv 1 (.int .i64 vb) rfl
   clear hy
   try clear z0 z1 z2 z3 zb
   have HO5 := hid (oB9 HO.out hB)
   by_cases h0 : r = 0
   ·
    have HNX' := hid (HNX.out h0)
    subst h0
    clear HBAD hB
    go_wp2_with (at_builtin; refine wa9 _ rfl _ _ 71 rfl 79 _ 2 16 underlying71 info_share rfl (by decide) rfl HO5.out _ rfl (by first | rfl | simp) rfl (by simp [Value.oneCell']) (by omega) (by omega) (by first | omega | exact hs5 | (simp; omega)) ?_; intro v' w11 ho' hg)
    go_roundw
    case rel =>
     refine ⟨k + 1, by omega, by go_num, HNX'.out, ?_, bP HBB.out HO5.out hg (Nat.le_refl _)⟩
     unfold Hid
     rw [HDN.out, List.flatMap_append]
     simpa [shC] using ho'
    case measure => simp [intOf]; omega
   ·
    have tr : (r != 0) = true := by simpa using h0
    have HE := hid (HBAD.out h0)
    have H0 := hid h0
    clear h0 HNX HBAD
    go_wp2_with fail
    refine bodyPost_ret (v := .tuple #[.slice none 0 0, .int .i64 r]) (by simp [results, results87, go_sem]) rfl ⟨Or.inr ⟨by rw [HE.out]; exact H0.out, by rw [HE.out]⟩, HBB.out⟩
def postAt (x y : List Sh) (i : Nat) : Bool := okO Ao9 (x.getD i sh0).a (y.getD i sh0).a && okO Ao9 (x.getD i sh0).b (y.getD i sh0).b
def postE (x y : List Sh) : Int := if x.length = y.length then okE ((List.range x.length).all (postAt x y)) 10 else 3
def postL (x y : List Sh) : List Sh := (List.range x.length).map fun i => ⟨(x.getD i sh0).a + (y.getD i sh0).a, (x.getD i sh0).b + (y.getD i sh0).b⟩
theorem postL_len (x y : List Sh) : (postL x y).length = x.length := by simp [postL]
def two (x y : List Sh) : Nat → List Sh := fun k => if k = 0 then x else y
theorem two_ok (x y : List Sh) (i : Nat) : (∀ k, k < 2 → okS (two x y) k i = true) ↔ postAt x y i = true := by
 have h0 : okS (two x y) 0 i = (mrB (x.getD i sh0).a && mrB (x.getD i sh0).b && mrB (x.getD i sh0).a && mrB (x.getD i sh0).b) := by
  simp [okS, two, sumI, sumTo]
 have h1 : okS (two x y) 1 i = (mrB (y.getD i sh0).a && mrB (y.getD i sh0).b && mrB ((x.getD i sh0).a + (y.getD i sh0).a) && mrB ((x.getD i sh0).b + (y.getD i sh0).b)) := by
  simp [okS, two, sumI, sumTo]
 constructor
 ·
  intro h
  have a0 := h 0 (by decide)
  have a1 := h 1 (by decide)
  rw [h0] at a0
  rw [h1] at a1
  simp only [Bool.and_eq_true] at a0 a1
  obtain ⟨⟨⟨p1, p2⟩, _⟩, _⟩ := a0
  obtain ⟨⟨⟨q1, q2⟩, q3⟩, q4⟩ := a1
  simp only [postAt, okO, Ao9, Bool.and_eq_true]
  exact ⟨⟨⟨p1, q1⟩, q3⟩, ⟨p2, q2⟩, q4⟩
 ·
  intro h k hk
  simp only [postAt, okO, Ao9, Bool.and_eq_true] at h
  obtain ⟨⟨⟨p1, q1⟩, q3⟩, ⟨p2, q2⟩, q4⟩ := h
  rcases (by omega : k = 0 ∨ k = 1) with rfl | rfl
  ·
   rw [h0, p1, p2]; rfl
  ·
   rw [h1, q1, q2, q3, q4]; rfl
theorem two_sum (x y : List Sh) : sumL (two x y) x.length 2 0 = postL x y := by
 unfold sumL postL
 apply List.map_congr_left
 intro i _
 simp [sumI, sumTo, two]
theorem spost_c (x y : List Sh) (A B : Option Addr) (n c m c' : Nat) (w : World) (hn6 : n ≤ 64) (hx : Sh9 w A n x) (hy : Sh9 w B m y) (E : Int) (L : List Sh) (hE : Hid (E = postE x y)) (hL : Hid (L = postL x y)) :
  Calls prog 135 #[.slice A n c, .slice B m c'] w (RowR E L w) := by
 have HN : Hid (n = x.length) := hx.1
 have HM : Hid (m = y.length) := hy.1
 have hn9 := hx.2.1
 have hm9 := hy.2.1
 by_cases hnm : n = m
 case neg =>
  have tn : ((n : Int) != (m : Int)) = true := by simp; omega
  have HE : Hid (E = 3) := hE.out.trans (by unfold postE; rw [if_neg (by rw [← HN.out, ← HM.out]; exact hnm)])
  clear hnm
  go_enter func135, ntmps135
  go_wp2_with fail
  refine bodyPost_ret (v := .tuple #[.slice none 0 0, .int .i64 3]) (by simp [results, results135, go_sem]) rfl ⟨Or.inr ⟨by rw [HE.out]; decide, by rw [HE.out]⟩, b0 _⟩
 subst hnm
 have hf := (Fr.start w).al 71 #[.slice A n c, .slice B n c']
 have hrs : RowsSl (w.alloc (.cells #[.slice A n c, .slice B n c'] 71)) (some ⟨w.heap.size, 0, none⟩) 2 n (two x y) := by
  refine ⟨by omega, fun _ => ⟨w.heap.size, 0, rfl, (Blk.mk w _ _).lt, fun k hk => ?_⟩⟩
  rcases (by omega : k = 0 ∨ k = 1) with rfl | rfl
  ·
   exact ⟨A, c, (Blk.mk w _ _).cell 0, hx.below (bz1 w _)⟩
  ·
   exact ⟨B, c', (Blk.mk w _ _).cell 1, hy.below (bz1 w _)⟩
 have K := hid (sum_c (two x y) _ 2 2 n _ hrs hn6)
 have HB := hid hf.bl
 have HE : Hid ((∀ k i, k < 2 → i < n → okS (two x y) k i = true) → E = 0) := fun h => hE.out.trans (by
  unfold postE okE
  rw [if_pos (by rw [← HN.out, ← HM.out]), if_pos]
  rw [List.all_eq_true]
  intro i hi
  exact (two_ok x y i).1 (fun k hk => h k i hk (by rw [HN.out]; simpa using hi)))
 have HE' : Hid ((∃ k i, k < 2 ∧ i < n ∧ okS (two x y) k i = false) → E = 10) := fun ⟨k, i, h1, h2, h3⟩ => hE.out.trans (by
  unfold postE okE
  rw [if_pos (by rw [← HN.out, ← HM.out]), if_neg]
  intro h
  rw [List.all_eq_true] at h
  have := (two_ok x y i).2 (h i (by rw [← HN.out]; simpa using h2)) k h1
  rw [h3] at this
  cases this)
 have HLL : Hid (L = sumL (two x y) n 2 0 ∧ L.length = n) := by
  refine ⟨hL.out.trans ?_, ?_⟩
  ·
   rw [← two_sum, HN.out]
  ·
   rw [hL.out, postL_len, HN.out]
 clear hf hrs hx hy hE hL HM HN
 go_enter func135, ntmps135
 go_wp2_with fail
 refine K.out.mono ?_
 rintro e w1 ⟨⟨h, v, rfl, ho⟩ | ⟨h, rfl⟩, hb⟩
 ·
  have HO := hid ho
  have HBB := hid (bT HB.out hb)
  have HZ := hid (HE.out h)
  clear ho hb h K
  go_wp2_with fail
  refine bodyPost_ret (v := .tuple #[v, .int .i64 0]) (by simp [results, results135, go_sem]) rfl ⟨Or.inl ⟨HZ.out, v, rfl, ?_⟩, HBB.out⟩
  rw [HLL.out.2, HLL.out.1]
  exact ⟨HO.out.1, oM9 HO.out.2 HB.out.size⟩
 ·
  have HBB := hid (bT HB.out hb)
  have HZ := hid (HE'.out h)
  clear hb h K
  go_wp2_with fail
  refine bodyPost_ret (v := .tuple #[.slice none 0 0, .int .i64 10]) (by simp [results, results135, go_sem]) rfl ⟨Or.inr ⟨by rw [HZ.out]; decide, by rw [HZ.out]⟩, HBB.out⟩
def sideE (l : List Sh) : Int := okE ((List.range l.length).all (totAt l)) 10
def sideV (l : List Sh) : Sh := if sideE l = 0 then ⟨sumTo (fun i => (l.getD i sh0).a) l.length, sumTo (fun i => (l.getD i sh0).b) l.length⟩ else sh0
theorem tot_cases {l : List Sh} {n : Nat} {w w' : World} {e : Ending} (h : Tot l n w e w') (hn : n = l.length) (E : Int) (V : Sh) (hE : Hid (E = sideE l)) (hV : Hid (V = sideV l)) : e = .returned (.tuple #[.agg #[.int .i64 V.a, .int .i64 V.b], .int .i64 E]) ∧ Below w.heap.size w w' := by
 obtain ⟨⟨h1, rfl⟩ | ⟨⟨k, hk, hf⟩, rfl⟩, hb⟩ := h
 ·
  have h0 : sideE l = 0 := by
   unfold sideE okE
   rw [if_pos]
   rw [List.all_eq_true]
   intro i hi
   exact h1 i (by rw [hn]; simpa using hi)
  rw [hE.out, hV.out]
  unfold sideV
  rw [if_pos h0, h0, hn]
  exact ⟨rfl, hb⟩
 ·
  have h0 : sideE l = 10 := by
   unfold sideE okE
   rw [if_neg]
   intro h
   rw [List.all_eq_true] at h
   have := h k (by rw [← hn]; simpa using hk)
   rw [hf] at this
   cases this
  rw [hE.out, hV.out]
  unfold sideV
  rw [if_neg (by rw [h0]; decide), h0]
  exact ⟨rfl, hb⟩
theorem ssides_c (l : List Sh) (A : Option Addr) (n c : Nat) (w : World) (hl : Sh9 w A n l) (E : Int) (V : Sh) (hE : Hid (E = sideE l)) (hV : Hid (V = sideV l)) :
  Calls prog 165 #[.slice A n c] w fun e w' => e = .returned (.tuple #[.agg #[.int .i64 V.a, .int .i64 V.b], .int .i64 E]) ∧ Below w.heap.size w w' := by
 have hf := (Fr.start w).al 79 #[.int .i64 0, .int .i64 0]
 have HF := hid hf
 have K := hid (fun W (hW : Below w.heap.size w W) => (total_c l A n c W (hl.below hW)).mono fun e w' h => tot_cases h hl.1 E V hE hV)
 clear hf hl hE hV
 obtain ⟨a, b⟩ := V
 go_enter func165, ntmps165
 go_wp2_with fail
 refine (K.out _ HF.out.bl).mono ?_
 rintro e w1 ⟨rfl, hb⟩
 have HF1 := hid (HF.out.ca hb)
 have qz := HF1.out.b 0 rfl
 have c0 := qz.cv 0 (.int .i64 0) rfl
 have c1 := qz.cv 1 (.int .i64 0) rfl
 have f0 := qz.free 0
 have f1 := qz.free 1
 clear qz
 clear hb K
 go_wp2_with fail
 refine bodyPost_ret (v := .tuple #[.agg #[.int .i64 a, .int .i64 b], .int .i64 E]) (by simp [results, results165, go_sem, c0, c1]) rfl ⟨rfl, ?_⟩
 exact bSg (bSg HF1.out.bl (Nat.le_refl _) _ _) (Nat.le_refl _) _ _
theorem semp_c (l : List Sh) (A : Option Addr) (n c : Nat) (w : World) (hl : Sh9 w A n l) (E : Int) (V : Sh) (hE : Hid (E = sideE l)) (hV : Hid (V = sideV l)) :
  Calls prog 133 #[.slice A n c] w fun e w' => e = .returned (.tuple #[.int .i64 V.a, .int .i64 E]) ∧ Below w.heap.size w w' := by
 have K := hid (ssides_c l A n c w hl E V hE hV)
 clear hl hE hV
 obtain ⟨a, b⟩ := V
 go_enter func133, ntmps133
 go_wp2_with fail
 refine K.out.mono ?_
 rintro e w1 ⟨rfl, hb⟩
 have HB := hid (bA hb (.cells #[.int .i64 a, .int .i64 b] 79))
 clear hb K
 go_wp2_with fail
 refine bodyPost_ret (v := .tuple #[.int .i64 a, .int .i64 E]) (by simp [results, results133, go_sem]) rfl ⟨rfl, HB.out⟩
theorem madd_c (x y : Int) (w : World) (E V : Int) (hE : Hid (E = okE (okO Ao9 x y) 10)) (hV : Hid (E = 0 → V = x + y)) (hV0 : Hid (E ≠ 0 → V = 0)) :
  Calls prog 124 #[.int .i64 x, .int .i64 y] w fun e w' => e = .returned (.tuple #[.int .i64 V, .int .i64 E]) ∧ Below w.heap.size w w' := by
 cases h : okO Ao9 x y
 ·
  have h0 : E = 10 := hE.out.trans (by rw [h]; rfl)
  have h1 : V = 0 := hV0.out (by rw [h0]; decide)
  rw [h0, h1]; exact AddOp_f x y w h
 ·
  have h0 : E = 0 := hE.out.trans (by rw [h]; rfl)
  have h1 : V = x + y := hV.out h0
  rw [h0, h1]; exact AddOp_c x y w h
theorem msub_c (x y : Int) (w : World) (E V : Int) (hE : Hid (E = okE (okO So9 x y) 10)) (hV : Hid (E = 0 → V = x - y)) (hV0 : Hid (E ≠ 0 → V = 0)) :
  Calls prog 92 #[.int .i64 x, .int .i64 y] w fun e w' => e = .returned (.tuple #[.int .i64 V, .int .i64 E]) ∧ Below w.heap.size w w' := by
 cases h : okO So9 x y
 ·
  have h0 : E = 10 := hE.out.trans (by rw [h]; rfl)
  have h1 : V = 0 := hV0.out (by rw [h0]; decide)
  rw [h0, h1]; exact SubOp_f x y w h
 ·
  have h0 : E = 0 := hE.out.trans (by rw [h]; rfl)
  have h1 : V = x - y := hV.out h0
  rw [h0, h1]; exact SubOp_c x y w h
theorem ev_ex (e v : Int) : ∃ E V : Int, Hid (E = e) ∧ Hid (E = 0 → V = v) ∧ Hid (E ≠ 0 → V = 0) := by
 by_cases h : e = 0
 ·
  exact ⟨e, v, rfl, fun _ => rfl, fun h' => absurd h h'⟩
 ·
  exact ⟨e, 0, rfl, fun h' => absurd h' h, fun _ => rfl⟩
def tsumE (L : List Tk) (n : Nat) : Int := fz9 (fun k => okE (okO Ao9 (sumT L k) (L.getD k tk0).ta) 10) n
theorem asum_g (A : Option Addr) (n c : Nat) (L : List Tk) (w : World) (hl : TkSl w A n L) (re rv : Int) (he : Hid (re = tsumE L n)) (hv : Hid (re = 0 → rv = sumT L n)) (hv0 : Hid (re ≠ 0 → rv = 0)) :
  Calls prog 132 #[.slice A n c] w fun e w' => e = .returned (.tuple #[.int .i64 rv, .int .i64 re]) ∧ Below w.heap.size w w' := by
 have HL := hid hl
 have hn9 := hl.2.1
 have H0 : Hid (sumT L 0 = 0) := rfl
 clear hl
 go_enter func132, ntmps132
 go_wp2_with fail
 go_loopw [4, 11] (fun sm i wr => ∃ k : Nat, k ≤ n ∧ i = .int .i64 k ∧ sm = .int .i64 (sumT L k) ∧ Hid (tsumE L k = 0) ∧ Hid (Below w.heap.size w wr)) (fun _ i _ => n - (intOf i).toNat)
 case atStart => exact ⟨0, Nat.zero_le _, rfl, by rw [H0.out], rfl, b0 _⟩
 case round =>
  obtain ⟨k, hk', rfl, rfl, HZ, HB⟩ := hrel
  by_cases hk : k < n
  case neg =>
   obtain rfl : k = n := by omega
   have HE : Hid (re = 0) := he.out.trans HZ.out
   have HV := hid (hv.out HE.out)
   clear hk hk'
   go_wp2_with fail
   refine bodyPost_ret (v := .tuple #[.int .i64 (sumT L k), .int .i64 0]) (by simp [results, results132, go_sem]) rfl ⟨by rw [HE.out, HV.out], HB.out⟩
  obtain ⟨b, off, rfl, hlt, hat⟩ := (HL.out.below HB.out).2.2 (by omega)
  have hcl := hat k hk
  have HSU : Hid (sumT L (k + 1) = sumT L k + (L.getD k tk0).ta) := rfl
  obtain ⟨E, V, hE, hV, hV0⟩ := ev_ex (okE (okO Ao9 (sumT L k) (L.getD k tk0).ta) 10) (sumT L k + (L.getD k tk0).ta)
  have KA := hid (fun W => madd_c (sumT L k) (L.getD k tk0).ta W E V hE hV hV0)
  have HST : Hid (E ≠ 0 → re = E ∧ rv = 0) := fun h => by
   have : re = E := he.out.trans (by
    unfold tsumE
    rw [fS9 _ k _ HZ.out (by show okE _ _ ≠ 0; rw [← hE.out]; exact h) hk]
    exact hE.out.symm)
   exact ⟨this, hv0.out (by rw [this]; exact h)⟩
  have HNX : Hid (E = 0 → tsumE L (k + 1) = 0 ∧ V = sumT L (k + 1)) := fun h => ⟨ft9 _ _ HZ.out (by rw [← hE.out]; exact h), by rw [HSU.out]; exact hV.out h⟩
  clear hE hV hV0 hat
  generalize sumT L k = sk at *
  generalize L.getD k tk0 = zz at *
  obtain ⟨zo, zb, zr, zd, zt, zc⟩ := zz
  dsimp only at KA
  obtain ⟨c0, c1, c2, c3, c4, c5⟩ : wr.cell? ⟨b, off + k * 6, none⟩ = some (.int .i64 zo) ∧ wr.cell? ⟨b, off + k * 6 + 1, none⟩ = some (.int .i64 zb) ∧ wr.cell? ⟨b, off + k * 6 + 2, none⟩ = some (.int .i64 zr) ∧ wr.cell? ⟨b, off + k * 6 + 3, none⟩ = some (.int .i64 zd) ∧ wr.cell? ⟨b, off + k * 6 + 4, none⟩ = some (.int .i64 zt) ∧ wr.cell? ⟨b, off + k * 6 + 5, none⟩ = some (.int .i64 zc) := ⟨hcl 0 _ rfl, hcl 1 _ rfl, hcl 2 _ rfl, hcl 3 _ rfl, hcl 4 _ rfl, hcl 5 _ rfl⟩
  have HB1 := hid (bA HB.out (.cells #[.int .i64 zo, .int .i64 zb, .int .i64 zr, .int .i64 zd, .int .i64 zt, .int .i64 zc] 116))
  clear hcl HSU
  go_wp2_with fail
  refine (KA.out _).mono ?_
  rintro e w2 ⟨rfl, hb2⟩
  have HB2 := hid (bT HB1.out hb2)
  clear hb2 c0 c1 c2 c3 c4 c5
  by_cases h0 : E = 0
  ·
   obtain ⟨hn1, hn2⟩ := HNX.out h0
   have HN1 := hid hn1
   have HN2 := hid hn2
   subst h0
   clear hn1 hn2 HNX HST
   go_wp2_with fail
   go_roundw
   case rel => exact ⟨k + 1, by omega, by go_num, by rw [HN2.out], HN1.out, HB2.out⟩
   case measure => simp [intOf]; omega
  ·
   have tr : (E != 0) = true := by simpa using h0
   obtain ⟨hn1, hn2⟩ := HST.out h0
   have HN1 := hid hn1
   have HN2 := hid hn2
   clear hn1 hn2 HNX HST h0
   go_wp2_with fail
   refine bodyPost_ret (v := .tuple #[.int .i64 0, .int .i64 E]) (by simp [results, results132, go_sem]) rfl ⟨by rw [HN1.out, HN2.out], HB2.out⟩
def netE (cash tax : Int) (l : List Sh) : Int := sqz (sideE l) (sqz (okE (okO So9 cash tax) 10) (okE (okO So9 (cash - tax) (sideV l).a) 10))
def netV (cash tax : Int) (l : List Sh) : Int := cash - tax - (sideV l).a
theorem snet_c (cash tax : Int) (l : List Sh) (A : Option Addr) (n c : Nat) (w : World) (hl : Sh9 w A n l) (re rv : Int) (he : Hid (re = netE cash tax l)) (hv : Hid (re = 0 → rv = netV cash tax l)) (hv0 : Hid (re ≠ 0 → rv = 0)) :
  Calls prog 131 #[.int .i64 cash, .int .i64 tax, .slice A n c] w fun e w' => e = .returned (.tuple #[.int .i64 rv, .int .i64 re]) ∧ Below w.heap.size w w' := by
 obtain ⟨E1, hE1⟩ : ∃ E, E = sideE l := ⟨_, rfl⟩
 obtain ⟨V1, hV1⟩ : ∃ V, V = sideV l := ⟨_, rfl⟩
 have K1 := hid (semp_c l A n c w hl E1 V1 hE1 hV1)
 obtain ⟨E2, V2, hE2, hV2, hV20⟩ := ev_ex (okE (okO So9 cash tax) 10) (cash - tax)
 have K2 := hid (fun W => msub_c cash tax W E2 V2 hE2 hV2 hV20)
 have H1 : Hid (re = sqz E1 (sqz E2 (okE (okO So9 (cash - tax) V1.a) 10))) := he.out.trans (by unfold netE; rw [hE1, hV1, hE2.out])
 have HV : Hid (re = 0 → rv = cash - tax - V1.a) := fun h => (hv.out h).trans (by unfold netV; rw [hV1])
 have HB0 := hid (b0 w)
 clear hl hE1 hV1 he hv
 obtain ⟨va, vb⟩ := V1
 dsimp only at K1 H1 HV
 go_enter func131, ntmps131
 go_wp2_with fail
 refine K1.out.mono ?_
 rintro e w1 ⟨rfl, hb⟩
 have HB1 := hid hb
 clear hb K1
 by_cases h0 : E1 = 0
 case neg =>
  have tr : (E1 != 0) = true := by simpa using h0
  have HE := hid (H1.out.trans (sN9 h0))
  have HZ := hid (hv0.out (by rw [HE.out]; exact h0))
  clear h0
  go_wp2_with fail
  refine bodyPost_ret (v := .tuple #[.int .i64 0, .int .i64 E1]) (by simp [results, results131, go_sem]) rfl ⟨by rw [HE.out, HZ.out], HB1.out⟩
 have H2 := hid (H1.out.trans (sE9 h0))
 subst h0
 clear H1
 go_wp2_with fail
 refine (K2.out _).mono ?_
 rintro e w2 ⟨rfl, hb⟩
 have HB2 := hid (bT HB1.out hb)
 clear hb K2
 by_cases h0 : E2 = 0
 case neg =>
  have tr : (E2 != 0) = true := by simpa using h0
  have HE := hid (H2.out.trans (sN9 h0))
  have HZ := hid (hv0.out (by rw [HE.out]; exact h0))
  clear h0
  go_wp2_with fail
  refine bodyPost_ret (v := .tuple #[.int .i64 0, .int .i64 E2]) (by simp [results, results131, go_sem]) rfl ⟨by rw [HE.out, HZ.out], HB2.out⟩
 have H3 := hid (H2.out.trans (sE9 h0))
 have K3 := hid (fun W => msub_c (cash - tax) va W re rv H3.out HV hv0)
 rw [← hV2.out h0] at K3
 subst h0
 clear H2 HV hV2 hE2 hV20 hv0 H3
 go_wp2_with fail
 refine (K3.out _).mono ?_
 rintro e w3 ⟨rfl, hb⟩
 have HB3 := hid (bT HB2.out hb)
 clear hb K3
 go_wp2_with fail
 refine bodyPost_ret (v := .tuple #[.int .i64 rv, .int .i64 re]) (by simp [results, results131, go_sem]) rfl ⟨rfl, HB3.out⟩
def stepE (lim a b cash due : Int) (back : Bool) : Int :=
 sqz (okE (mrB a && (mrB b && (mrB cash && mrB due))) 10) (sqz (okE (okO So9 due a) 10) (sqz (okE (okO Ao9 a (partI (due - a) (limI lim cash) back)) 10) (okE (okO So9 (due - a) (partI (due - a) (limI lim cash) back)) 10)))
theorem hstep_g (As Ac Ak : Option Addr) (ns cs nc cc nk ck : Nat) (lim rnd a b cash due : Int) (back : Bool) (w : World) (hl : 0 ≤ lim ∧ lim ≤ 10000) (re : Int) (he : Hid (re = stepE lim a b cash due back)) :
  Calls prog 86 #[.agg #[.slice As ns cs, .slice Ac nc cc, .slice Ak nk ck, .int .i64 lim, .int .i64 rnd], .agg #[.int .i64 a, .int .i64 b], .int .i64 cash, .int .i64 due, .bool back] w fun e w' => (∃ x y z, e = .returned (.tuple #[.int .i64 x, .agg #[.int .i64 y, .int .i64 z], .int .i64 re]) ∧ (re = 0 → x = partI (due - a) (limI lim cash) back ∧ y = a + x ∧ z = due - a - x)) ∧ Below w.heap.size w w' := by
 have HF0 := hid (Fr.start w)
 obtain ⟨E1, hE1⟩ : ∃ E, E = okE (mrB a && (mrB b && (mrB cash && mrB due))) 10 := ⟨_, rfl⟩
 obtain ⟨E2, V2, hE2, hV2, hV20⟩ := ev_ex (okE (okO So9 due a) 10) (due - a)
 obtain ⟨lv, hlv⟩ : ∃ l, l = limI lim cash := ⟨_, rfl⟩
 obtain ⟨hd, hhd⟩ : ∃ h, h = partI (due - a) lv back := ⟨_, rfl⟩
 obtain ⟨E3, V3, hE3, hV3, hV30⟩ := ev_ex (okE (okO Ao9 a hd) 10) (a + hd)
 obtain ⟨E4, V4, hE4, hV4, hV40⟩ := ev_ex (okE (okO So9 (due - a) hd) 10) (due - a - hd)
 have H1 : Hid (re = sqz E1 (sqz E2 (sqz E3 E4))) := he.out.trans (by unfold stepE; rw [hE1, hE2.out, hE3.out, hE4.out, hhd, hlv])
 have KR := hid (fun (g : Nat) (W : World) (h : Blk W g 2 #[.int .i64 a, .int .i64 b, .int .i64 cash, .int .i64 due]) => right4 g 0 4 a b cash due W (h.cell 0) (h.cell 1) (h.cell 2) (h.cell 3))
 have HF1 := al9 (((((HF0.out.al 26 #[.slice As ns cs, .slice Ac nc cc, .slice Ak nk ck, .int .i64 lim, .int .i64 rnd]).al 173 #[.int .i64 a, .int .i64 b]).al 173 #[.int .i64 0, .int .i64 0]).al 2 #[.int .i64 a, .int .i64 b, .int .i64 cash, .int .i64 due]))
 clear HF0
 cases hq : (mrB a && (mrB b && (mrB cash && mrB due)))
 case false =>
  have HE : Hid (re = 10) := by
   have h1 : E1 = 10 := by rw [hE1, hq]; rfl
   exact H1.out.trans (by rw [h1]; rfl)
  have HN0 : Hid (re ≠ 0) := by unfold Hid; rw [HE.out]; decide
  rw [hq] at KR
  clear hq hl he hE1 hlv hhd
  go_enter func86, ntmps86
  have c1_0 := (HF1.out.b 1 rfl).cv 0 (.int .i64 a) rfl
  have c1_1 := (HF1.out.b 1 rfl).cv 1 (.int .i64 b) rfl
  go_wp2_with fail
  refine (KR.out _ _ (HF1.out.b 3 rfl)).mono ?_
  rintro e W1 ⟨rfl, rfl⟩
  clear c1_0 c1_1
  have c1_0 := (HF1.out.b 1 rfl).cv 0 (.int .i64 a) rfl
  have c1_1 := (HF1.out.b 1 rfl).cv 1 (.int .i64 b) rfl
  have qz := HF1.out.b 2 rfl
  have c2_0 := qz.cv 0 (.int .i64 0) rfl
  have f2_0 := qz.free 0
  have c2_1 := qz.cv 1 (.int .i64 0) rfl
  have f2_1 := qz.free 1
  clear qz
  go_wp2_with fail
  go_region
  go_wp2_with fail
  have q0 := (HF1.out.b 1 rfl).cv 0 (.int .i64 a) rfl
  refine bodyPost_ret (v := .tuple #[.int .i64 0, .agg #[.int .i64 a, .int .i64 b], .int .i64 10]) (by simp [results, results86, go_sem, c2_0, c2_1]) rfl ⟨⟨0, a, b, by rw [HE.out], fun h => absurd h HN0.out⟩, ?_⟩
  first | exact HF1.out.bl.drew | exact (bA (bA (bA (bA (b0 _) _) _) _) _).drew
 have h1 : E1 = 0 := by rw [hE1, hq]; rfl
 have H2 := hid (H1.out.trans (sE9 h1))
 have hq' := hq
 simp only [Bool.and_eq_true] at hq'
 obtain ⟨m1, m2, m3, m4⟩ := hq'
 have KL := hid (fun W => hlimit_c As Ac Ak ns cs nc cc nk ck lim rnd cash W (miz.1 m3).2 hl)
 have K2 := hid (fun W => msub_c due a W E2 V2 hE2 hV2 hV20)
 have KP := hid (fun W => hpart_c (due - a) (limI lim cash) back W)
 have K3 := hid (fun W => madd_c a hd W E3 V3 hE3 hV3 hV30)
 have K4 := hid (fun W => msub_c (due - a) hd W E4 V4 hE4 hV4 hV40)
 rw [← hlv] at KL KP
 rw [← hhd] at KP
 have HV2 : Hid (E2 = 0 → V2 = due - a) := hV2
 have HR : Hid (re = 0 → hd = partI (due - a) (limI lim cash) back) := fun _ => by rw [hhd, hlv]
 have HV3 : Hid (E3 = 0 → V3 = a + hd) := hV3
 have HV4 : Hid (E4 = 0 → V4 = due - a - hd) := hV4
 rw [hq] at KR
 clear hq m1 m2 m3 m4 hl h1 H1 hE1 hE2 hE3 hE4 hV2 hV3 hV4 hV20 hV30 hV40 hhd hlv he
 go_enter func86, ntmps86
 have c1_0 := (HF1.out.b 1 rfl).cv 0 (.int .i64 a) rfl
 have c1_1 := (HF1.out.b 1 rfl).cv 1 (.int .i64 b) rfl
 obtain ⟨c0_0, c0_1, c0_2, c0_3, c0_4⟩ := (HF1.out.b 0 rfl).q5
 go_wp2_with fail
 refine (KR.out _ _ (HF1.out.b 3 rfl)).mono ?_
 rintro e W1 ⟨rfl, rfl⟩
 go_wp2_with fail
 refine (KL.out _).mono ?_
 rintro e W2 ⟨rfl, hb⟩
 clear c1_0 c1_1 c0_0 c0_1 c0_2 c0_3 c0_4
 have HF2 := hid (HF1.out.ca hb)
 clear hb HF1
 have HF3 := hid (HF2.out.cut 3)
 clear HF2
 have c1_0 := (HF3.out.b 1 rfl).cv 0 (.int .i64 a) rfl
 have c1_1 := (HF3.out.b 1 rfl).cv 1 (.int .i64 b) rfl
 go_wp2_with fail
 refine (K2.out _).mono ?_
 rintro e W3 ⟨rfl, hb⟩
 clear c1_0 c1_1
 have HF4 := hid (HF3.out.ca hb)
 clear hb HF3
 by_cases h0 : E2 = 0
 case neg =>
  have tr : (E2 != 0) = true := by simpa using h0
  have HE : Hid (re = E2) := H2.out.trans (sN9 h0)
  have HN0 : Hid (re ≠ 0) := by unfold Hid; rw [HE.out]; exact h0
  clear h0
  have c1_0 := (HF4.out.b 1 rfl).cv 0 (.int .i64 a) rfl
  have c1_1 := (HF4.out.b 1 rfl).cv 1 (.int .i64 b) rfl
  have qz := HF4.out.b 2 rfl
  have c2_0 := qz.cv 0 (.int .i64 0) rfl
  have f2_0 := qz.free 0
  have c2_1 := qz.cv 1 (.int .i64 0) rfl
  have f2_1 := qz.free 1
  clear qz
  go_wp2_with fail
  go_region
  go_wp2_with fail
  refine bodyPost_ret (v := .tuple #[.int .i64 0, .agg #[.int .i64 a, .int .i64 b], .int .i64 E2]) (by simp [results, results86, go_sem, c2_0, c2_1]) rfl ⟨⟨0, a, b, by rw [HE.out], fun h => absurd h HN0.out⟩, ?_⟩
  have hg := HF4.out.ge 2 rfl
  first | exact (bSg (bSg HF4.out.bl hg _ _) hg _ _).drew | exact bSg (bSg HF4.out.bl.drew hg _ _) hg _ _
 have H3 := hid (H2.out.trans (sE9 h0))
 subst h0
 rw [← HV2.out rfl] at KP K4
 have HV2b := hid (HV2.out rfl)
 clear HV2
 go_wp2_with fail
 refine (KP.out _).mono ?_
 rintro e W4 ⟨rfl, rfl⟩
 have c1_0 := (HF4.out.b 1 rfl).cv 0 (.int .i64 a) rfl
 have c1_1 := (HF4.out.b 1 rfl).cv 1 (.int .i64 b) rfl
 go_wp2_with fail
 refine (K3.out _).mono ?_
 rintro e W5 ⟨rfl, hb⟩
 clear c1_0 c1_1
 have HF5 := hid (HF4.out.ca hb)
 clear hb HF4
 by_cases h0 : E3 = 0
 case neg =>
  have tr : (E3 != 0) = true := by simpa using h0
  have HE : Hid (re = E3) := H3.out.trans (sN9 h0)
  have HN0 : Hid (re ≠ 0) := by unfold Hid; rw [HE.out]; exact h0
  clear h0
  have c1_0 := (HF5.out.b 1 rfl).cv 0 (.int .i64 a) rfl
  have c1_1 := (HF5.out.b 1 rfl).cv 1 (.int .i64 b) rfl
  have qz := HF5.out.b 2 rfl
  have c2_0 := qz.cv 0 (.int .i64 0) rfl
  have f2_0 := qz.free 0
  have c2_1 := qz.cv 1 (.int .i64 0) rfl
  have f2_1 := qz.free 1
  clear qz
  go_wp2_with fail
  go_region
  go_wp2_with fail
  refine bodyPost_ret (v := .tuple #[.int .i64 0, .agg #[.int .i64 a, .int .i64 b], .int .i64 E3]) (by simp [results, results86, go_sem, c2_0, c2_1]) rfl ⟨⟨0, a, b, by rw [HE.out], fun h => absurd h HN0.out⟩, ?_⟩
  have hg := HF5.out.ge 2 rfl
  first | exact (bSg (bSg HF5.out.bl hg _ _) hg _ _).drew | exact bSg (bSg HF5.out.bl.drew hg _ _) hg _ _
 have H4 := hid (H3.out.trans (sE9 h0))
 subst h0
 have HV3b := hid (HV3.out rfl)
 clear HV3
 go_wp2_with fail
 refine (K4.out _).mono ?_
 rintro e W6 ⟨rfl, hb⟩
 have HF6 := hid (HF5.out.ca hb)
 clear hb HF5
 by_cases h0 : E4 = 0
 case neg =>
  have tr : (E4 != 0) = true := by simpa using h0
  have HE : Hid (re = E4) := H4.out
  have HN0 : Hid (re ≠ 0) := by unfold Hid; rw [HE.out]; exact h0
  clear h0
  have c1_0 := (HF6.out.b 1 rfl).cv 0 (.int .i64 a) rfl
  have c1_1 := (HF6.out.b 1 rfl).cv 1 (.int .i64 b) rfl
  have qz := HF6.out.b 2 rfl
  have c2_0 := qz.cv 0 (.int .i64 0) rfl
  have f2_0 := qz.free 0
  have c2_1 := qz.cv 1 (.int .i64 0) rfl
  have f2_1 := qz.free 1
  clear qz
  go_wp2_with fail
  go_region
  go_wp2_with fail
  refine bodyPost_ret (v := .tuple #[.int .i64 0, .agg #[.int .i64 a, .int .i64 b], .int .i64 E4]) (by simp [results, results86, go_sem, c2_0, c2_1]) rfl ⟨⟨0, a, b, by rw [HE.out], fun h => absurd h HN0.out⟩, ?_⟩
  have hg := HF6.out.ge 2 rfl
  first | exact (bSg (bSg HF6.out.bl hg _ _) hg _ _).drew | exact bSg (bSg HF6.out.bl.drew hg _ _) hg _ _
 have H5 : Hid (re = 0) := H4.out.trans h0
 subst h0
 have e4 := HV4.out rfl
 have HVV : Hid (V3 = a + hd ∧ V4 = due - a - hd) := ⟨HV3b.out, e4⟩
 clear e4 HV4 K2 K3 K4 KL KP KR
 have qz := HF6.out.b 2 rfl
 have c2_0 := qz.cv 0 (.int .i64 0) rfl
 have f2_0 := qz.free 0
 have c2_1 := qz.cv 1 (.int .i64 0) rfl
 have f2_1 := qz.free 1
 clear qz
 go_wp2_with fail
 refine bodyPost_ret (v := .tuple #[.int .i64 hd, .agg #[.int .i64 V3, .int .i64 V4], .int .i64 0]) (by simp [results, results86, go_sem, c2_0, c2_1]) rfl ⟨⟨hd, V3, V4, by rw [H5.out], fun _ => ⟨HR.out H5.out, HVV.out⟩⟩, ?_⟩
 have hg := HF6.out.ge 2 rfl
 exact (bSg (bSg HF6.out.bl hg _ _) hg _ _)
structure Sp where
 p : Int
 b : Bs
 tx : Int
 sh : Int
 rows : List Sh
 net : Int
 tk : List Tk
 py : Int
def sp0 : Sp := ⟨0, bs0, 0, 0, [], 0, [], 0⟩
def rgE (p : Int) : Int := if p < 1 ∨ 53 < p then 1 else 0
def eqE (p : Prop) [Decidable p] (e : Int) : Int := if p then 0 else e
def chkY (z : Sp) (n : Int) : Int :=
 sqz (rgE z.p) (sqz (eqE ((z.rows.length : Int) = n) 3) (sqz (sideE z.rows) (sqz (okE (bsR z.b && (mrB z.tx && (mrB z.sh && (mrB z.net && mrB z.py)))) 10) (sqz (tsumE z.tk z.tk.length) (eqE (z.b.c - z.tx - (sideV z.rows).a = z.net ∧ z.net - sumT z.tk z.tk.length = z.py) 5)))))
theorem side_mr {l : List Sh} (h : sideE l = 0) : -100000000000 ≤ (sideV l).a ∧ (sideV l).a ≤ 100000000000 := by
 have hv : sideV l = ⟨sumTo (fun i => (l.getD i sh0).a) l.length, sumTo (fun i => (l.getD i sh0).b) l.length⟩ := by unfold sideV; rw [if_pos h]
 rw [hv]
 unfold sideE okE at h
 cases ha : (List.range l.length).all (totAt l)
 ·
  rw [ha] at h; cases h
 rw [List.all_eq_true] at ha
 rcases hl : l.length with _ | k
 ·
  simp [sumTo]
 ·
  have := ha k (by rw [List.mem_range]; omega)
  unfold totAt at this
  simp only [Bool.and_eq_true] at this
  exact miz.1 this.1.2
theorem tsum_mr {l : List Tk} {n : Nat} (h : tsumE l n = 0) : -100000000000 ≤ sumT l n ∧ sumT l n ≤ 100000000000 := by
 rcases n with _ | k
 ·
  simp [sumT]
 ·
  have := faz _ _ h k (by omega)
  try dsimp only at this
  unfold okE at this
  cases ho : okO Ao9 (sumT l k) (l.getD k tk0).ta
  ·
   rw [ho] at this; cases this
  ·
   exact miz.1 (okO_yes ho).2.2
theorem ychk_c (z : Sp) (A B : Option Addr) (n c m d : Nat) (k : Int) (w : World) (hr : Sh9 w A n z.rows) (ht : TkSl w B m z.tk) (re : Int) (he : Hid (re = chkY z k)) :
  Calls prog 89 #[.agg #[.int .i64 z.p, .int .i64 z.b.c, .int .i64 z.b.t, .int .i64 z.b.s, .int .i64 z.tx, .int .i64 z.sh, .slice A n c, .int .i64 z.net, .slice B m d, .int .i64 z.py], .int .i64 k] w fun e w' => e = .returned (.int .i64 re) ∧ Below w.heap.size w w' := by
 have HF0 := hid (Fr.start w)
 obtain ⟨rows, hrows⟩ : ∃ l, l = z.rows := ⟨_, rfl⟩
 obtain ⟨tk, htk⟩ : ∃ l, l = z.tk := ⟨_, rfl⟩
 have HN : Hid (n = rows.length) := hr.1.trans (by rw [hrows])
 have HM : Hid (m = tk.length) := ht.1.trans (by rw [htk])
 have hn9 := hr.2.1
 have hm9 := ht.2.1
 obtain ⟨E1, hE1⟩ : ∃ E, E = rgE z.p := ⟨_, rfl⟩
 obtain ⟨E2, hE2⟩ : ∃ E, E = eqE ((n : Int) = k) 3 := ⟨_, rfl⟩
 obtain ⟨E3, hE3⟩ : ∃ E, E = sideE rows := ⟨_, rfl⟩
 obtain ⟨V3, hV3⟩ : ∃ V, V = sideV rows := ⟨_, rfl⟩
 have K3 := hid (fun W (h : Sh9 W A n rows) => semp_c rows A n c W h E3 V3 hE3 hV3)
 obtain ⟨b4, hb4⟩ : ∃ b, b = bsR z.b := ⟨_, rfl⟩
 obtain ⟨b5, hb5⟩ : ∃ b, b = (mrB z.tx && (mrB z.sh && (mrB z.net && mrB z.py))) := ⟨_, rfl⟩
 have K4 := hid (fun W => bright_c z.b W)
 obtain ⟨E6, V6, hE6, hV6, hV60⟩ := ev_ex (tsumE tk m) (sumT tk m)
 have K6 := hid (fun W (h : TkSl W B m tk) => asum_g B m d tk W h E6 V6 hE6 hV6 hV60)
 obtain ⟨E7, hE7⟩ : ∃ E, E = eqE (z.b.c - z.tx - V3.a = z.net ∧ z.net - V6 = z.py) 5 := ⟨_, rfl⟩
 have HV3 : Hid (E3 = 0 → -100000000000 ≤ V3.a ∧ V3.a ≤ 100000000000) := fun h => by rw [hV3]; exact side_mr (by rw [← hE3]; exact h)
 have HV6 : Hid (E6 = 0 → -100000000000 ≤ V6 ∧ V6 ≤ 100000000000) := fun h => by rw [hV6 h]; exact tsum_mr (by rw [← hE6.out]; exact h)
 have H1 : Hid (re = sqz E1 (sqz E2 (sqz E3 (sqz (okE (b4 && b5) 10) (sqz E6 E7))))) := he.out.trans (by
  unfold chkY
  rw [← hrows, ← htk, ← hE1, ← hE3, ← hV3, ← hb4, ← hb5, ← HN.out, ← HM.out, ← hE2, ← hE6.out]
  unfold sqz
  by_cases h6 : E6 = 0
  ·
   rw [if_pos h6, hE7, ← hV6 h6, if_pos h6]
  ·
   rw [if_neg h6, if_neg h6])
 have KR := hid (fun (g : Nat) (W : World) (h : Blk W g 2 #[.int .i64 z.tx, .int .i64 z.sh, .int .i64 z.net, .int .i64 z.py]) => right4 g 0 4 z.tx z.sh z.net z.py W (h.cell 0) (h.cell 1) (h.cell 2) (h.cell 3))
 have HRW := hid (show Sh9 w A n rows by rw [hrows]; exact hr)
 have HTK := hid (show TkSl w B m tk by rw [htk]; exact ht)
 have HX1 := hid hE1
 have HX2 := hid hE2
 have HX4 := hid hb4
 have HX5 := hid hb5
 have HX7 := hid hE7
 rw [← hb4] at K4
 rw [← hb5] at KR
 have HXB : Hid (b4 = true → -100000000000 ≤ z.b.c ∧ z.b.c ≤ 100000000000) := fun h => by
  rw [hb4] at h
  unfold bsR at h
  simp only [Bool.and_eq_true] at h
  exact miz.1 (by first | exact h.1 | exact h.1.1)
 have HXM : Hid (b5 = true → (-100000000000 ≤ z.tx ∧ z.tx ≤ 100000000000) ∧ (-100000000000 ≤ z.net ∧ z.net ≤ 100000000000)) := fun h => by
  rw [hb5] at h
  simp only [Bool.and_eq_true] at h
  exact ⟨miz.1 h.1, miz.1 h.2.2.1⟩
 clear hr ht hE1 hE2 hE3 hV3 hb4 hb5 hE6 hV6 hV60 hE7 hrows htk he
 obtain ⟨p, ⟨bc, bt, bs⟩, tx, sh, _, net, _, py⟩ := z
 obtain ⟨va, vb⟩ := V3
 dsimp only at K3 K4 KR HX1 HX2 HX4 HX5 HX7 HXB HXM HV3
 dsimp only
 have HF1 := al9 ((HF0.out.al 45 #[.int .i64 p, .int .i64 bc, .int .i64 bt, .int .i64 bs, .int .i64 tx, .int .i64 sh, .slice A n c, .int .i64 net, .slice B m d, .int .i64 py]))
 clear HF0
 go_enter func89, ntmps89
 obtain ⟨c0_0, c0_1, c0_2, c0_3, c0_4, c0_5, c0_6, c0_7, c0_8, c0_9⟩ := (HF1.out.b 0 rfl).q10
 by_cases hp : p < 1 ∨ 53 < p
 case pos =>
  have HE : Hid (re = 1) := H1.out.trans (by rw [HX1.out]; unfold rgE; rw [if_pos hp]; rfl)
  by_cases hp1 : p < 1
  case pos =>
   have t1 : decide (p < 1) = true := by simpa using hp1
   clear hp
   go_wp2_with fail
   refine bodyPost_ret (v := .int .i64 1) (by simp [results, results89, go_sem]) rfl ⟨by rw [HE.out], HF1.out.bl⟩
  case neg =>
   have hp2 : 53 < p := by omega
   have t1 : decide (p < 1) = false := by simpa using hp1
   have t2 : decide (53 < p) = true := by simpa using hp2
   clear hp
   go_wp2_with fail
   refine bodyPost_ret (v := .int .i64 1) (by simp [results, results89, go_sem]) rfl ⟨by rw [HE.out], HF1.out.bl⟩
 have HP : Hid (1 ≤ p ∧ p ≤ 53) := ⟨by omega, by omega⟩
 have t1 : decide (p < 1) = false := by simp; omega
 have t2 : decide (53 < p) = false := by simp; omega
 have H2 := hid (H1.out.trans (sE9 (by rw [HX1.out]; unfold rgE; rw [if_neg hp])))
 have hp1 : ¬ p < 1 := by omega
 have hp2 : ¬ 53 < p := by omega
 clear hp H1 HX1
 by_cases hk : (n : Int) = k
 case neg =>
  have tk2 : ((n : Int) != k) = true := by simpa using hk
  have HE : Hid (re = 3) := H2.out.trans (by rw [HX2.out]; unfold eqE; rw [if_neg hk]; rfl)
  clear hk
  go_wp2_with fail
  refine bodyPost_ret (v := .int .i64 3) (by simp [results, results89, go_sem]) rfl ⟨by rw [HE.out], HF1.out.bl⟩
 have H3 := hid (H2.out.trans (sE9 (by rw [HX2.out]; unfold eqE; rw [if_pos hk])))
 subst hk
 clear HX2 H2
 go_wp2_with fail
 refine (K3.out _ (HRW.out.below HF1.out.bl)).mono ?_
 rintro e W1 ⟨rfl, hb⟩
 clear c0_0 c0_1 c0_2 c0_3 c0_4 c0_5 c0_6 c0_7 c0_8 c0_9
 have HF2 := hid (HF1.out.ca hb)
 clear hb HF1
 by_cases h0 : E3 = 0
 case neg =>
  have tr : (E3 != 0) = true := by simpa using h0
  have HE : Hid (re = E3) := H3.out.trans (sN9 h0)
  have HN0 : Hid (re ≠ 0) := by unfold Hid; rw [HE.out]; exact h0
  clear h0
  go_wp2_with fail
  refine bodyPost_ret (v := .int .i64 E3) (by simp [results, results89, go_sem]) rfl ⟨by rw [HE.out], HF2.out.bl⟩
 have H4 := hid (H3.out.trans (sE9 h0))
 subst h0
 have HV3b := hid (HV3.out rfl)
 clear HV3 H3 K3
 obtain ⟨c0_0, c0_1, c0_2, c0_3, c0_4, c0_5, c0_6, c0_7, c0_8, c0_9⟩ := (HF2.out.b 0 rfl).q10
 go_wp2_with fail
 refine (K4.out _).mono ?_
 rintro e W2 ⟨rfl, hb⟩
 clear c0_0 c0_1 c0_2 c0_3 c0_4 c0_5 c0_6 c0_7 c0_8 c0_9
 have HF3 := hid (HF2.out.ca hb)
 clear hb HF2
 cases hb4 : b4
 case false =>
  have HE : Hid (re = 10) := H4.out.trans (by rw [hb4]; rfl)
  subst hb4
  go_wp2_with fail
  refine bodyPost_ret (v := .int .i64 10) (by simp [results, results89, go_sem]) rfl ⟨by rw [HE.out], HF3.out.bl⟩
 subst hb4
 have HM4 := hid (HXB.out rfl)
 obtain ⟨c0_0, c0_1, c0_2, c0_3, c0_4, c0_5, c0_6, c0_7, c0_8, c0_9⟩ := (HF3.out.b 0 rfl).q10
 have HF4 := al9 ((HF3.out.al 2 #[.int .i64 tx, .int .i64 sh, .int .i64 net, .int .i64 py]))
 clear HF3
 go_wp2_with fail
 refine (KR.out _ _ (HF4.out.b 1 rfl)).mono ?_
 rintro e W3 ⟨rfl, rfl⟩
 have HF5 := hid (HF4.out.cut 1)
 clear HF4
 cases hb5 : b5
 case false =>
  have HE : Hid (re = 10) := H4.out.trans (by rw [hb5]; rfl)
  subst hb5
  go_wp2_with fail
  refine bodyPost_ret (v := .int .i64 10) (by simp [results, results89, go_sem]) rfl ⟨by rw [HE.out], HF5.out.bl⟩
 have H5 := hid (H4.out.trans (sE9 (by rw [hb5]; rfl)))
 subst hb5
 have HM5 := hid (HXM.out rfl)
 clear H4 HXM HXB K4 KR HX4 HX5
 clear c0_0 c0_1 c0_2 c0_3 c0_4 c0_5 c0_6 c0_7 c0_8 c0_9
 obtain ⟨c0_0, c0_1, c0_2, c0_3, c0_4, c0_5, c0_6, c0_7, c0_8, c0_9⟩ := (HF5.out.b 0 rfl).q10
 go_wp2_with fail
 refine (K6.out _ (HTK.out.below HF5.out.bl)).mono ?_
 rintro e W4 ⟨rfl, hb⟩
 clear c0_0 c0_1 c0_2 c0_3 c0_4 c0_5 c0_6 c0_7 c0_8 c0_9
 have HF6 := hid (HF5.out.ca hb)
 clear hb HF5
 by_cases h0 : E6 = 0
 case neg =>
  have tr : (E6 != 0) = true := by simpa using h0
  have HE : Hid (re = E6) := H5.out.trans (sN9 h0)
  have HN0 : Hid (re ≠ 0) := by unfold Hid; rw [HE.out]; exact h0
  clear h0
  go_wp2_with fail
  refine bodyPost_ret (v := .int .i64 E6) (by simp [results, results89, go_sem]) rfl ⟨by rw [HE.out], HF6.out.bl⟩
 have H6 := hid (H5.out.trans (sE9 h0))
 subst h0
 have HV6b := hid (HV6.out rfl)
 clear HV6 H5 K6
 obtain ⟨v1, v2⟩ := HV3b.out
 obtain ⟨v3, v4⟩ := HV6b.out
 obtain ⟨v5, v6⟩ := HM4.out
 obtain ⟨⟨v7, v8⟩, v9, v10⟩ := HM5.out
 try dsimp only at v1 v2
 have q1 : IntKind.i64.wrap (bc - tx) = bc - tx := by rw [IntKind.wrap_i64]; omega
 have q2 : IntKind.i64.wrap (bc - tx - va) = bc - tx - va := by rw [IntKind.wrap_i64]; omega
 have q3 : IntKind.i64.wrap (net - V6) = net - V6 := by rw [IntKind.wrap_i64]; omega
 clear v1 v2 v3 v4 v5 v6 v7 v8 v9 v10
 obtain ⟨c0_0, c0_1, c0_2, c0_3, c0_4, c0_5, c0_6, c0_7, c0_8, c0_9⟩ := (HF6.out.b 0 rfl).q10
 by_cases h7 : bc - tx - va = net
 case neg =>
  have t7 : (bc - tx - va != net) = true := by simpa using h7
  have HE : Hid (re = 5) := H6.out.trans (by rw [HX7.out]; unfold eqE; rw [if_neg (fun h => h7 h.1)])
  clear h7
  go_wp2_with fail
  refine bodyPost_ret (v := .int .i64 5) (by simp [results, results89, go_sem]) rfl ⟨by rw [HE.out], HF6.out.bl⟩
 have t7 : (bc - tx - va != net) = false := by simpa using h7
 by_cases h8 : net - V6 = py
 case neg =>
  have t8 : (net - V6 != py) = true := by simpa using h8
  have HE : Hid (re = 5) := H6.out.trans (by rw [HX7.out]; unfold eqE; rw [if_neg (fun h => h8 h.2)])
  clear h7 h8
  go_wp2_with fail
  refine bodyPost_ret (v := .int .i64 5) (by simp [results, results89, go_sem]) rfl ⟨by rw [HE.out], HF6.out.bl⟩
 have t8 : (net - V6 != py) = false := by simpa using h8
 have HE : Hid (re = 0) := H6.out.trans (by rw [HX7.out]; unfold eqE; rw [if_pos ⟨h7, h8⟩])
 clear h7 h8
 go_wp2_with fail
 refine bodyPost_ret (v := .int .i64 0) (by simp [results, results89, go_sem]) rfl ⟨by rw [HE.out], HF6.out.bl⟩
def CloneV (E : TypeId) (K n : Nat) (news : List Value) (w : World) (e : Ending) (w' : World) : Prop := (∃ A c, e = .returned (.slice A n c) ∧ w'.ownsRow w.heap.size E K (.slice A n c) n news) ∧ Below w.heap.size w w'
def CloneB (base : Nat) (E : TypeId) (K n : Nat) (news : List Value) (w : World) (e : Ending) (w' : World) : Prop := (∃ A c, e = .returned (.slice A n c) ∧ w'.ownsRow base E K (.slice A n c) n news) ∧ Below w.heap.size w w'
theorem CloneV.b {E : TypeId} {K n : Nat} {news : List Value} {w0 w w' : World} {e : Ending} (h : CloneV E K n news w e w') (hb : Below w0.heap.size w0 w) : CloneB w0.heap.size E K n news w e w' := by
 obtain ⟨⟨A, c, h1, h2⟩, h3⟩ := h
 exact ⟨⟨A, c, h1, oM9 h2 hb.size⟩, h3⟩
theorem tkC_len' (z : Tk) : (tkC z).length = 6 := rfl
theorem sh_row {w : World} {A : Option Addr} {n : Nat} {l : List Sh} (h : Sh9 w A n l) : Rlz shC 2 sh0 w A n l := by
 refine ⟨h.1, h.2.1, fun h0 => ?_⟩
 obtain ⟨b, off, hA, hlt, hat⟩ := h.2.2 h0
 refine ⟨b, off, hA, hlt, fun k hk j u hu => ?_⟩
 obtain ⟨c0, c1⟩ := hat k (by rw [← h.1]; exact hk)
 rcases j with _ | _ | j
 ·
  simp only [shC, List.getElem?_cons_zero, Option.some.injEq] at hu
  subst hu; exact c0
 ·
  simp only [shC, List.getElem?_cons_succ, List.getElem?_cons_zero, Option.some.injEq] at hu
  subst hu; exact c1
 ·
  simp [shC] at hu
theorem row_sh {w : World} {A : Option Addr} {n : Nat} {l : List Sh} (h : Rlz shC 2 sh0 w A n l) : Sh9 w A n l := by
 refine ⟨h.1, h.2.1, fun h0 => ?_⟩
 obtain ⟨b, off, hA, hlt, hat⟩ := h.2.2 h0
 exact ⟨b, off, hA, hlt, fun k hk => ⟨hat k (by rw [h.1]; exact hk) 0 _ rfl, hat k (by rw [h.1]; exact hk) 1 _ rfl⟩⟩
theorem all_one {α : Type} {f : α → List Value} (hf : ∀ x, ∀ u ∈ f x, u.oneCell' = true) (l : List α) : ∀ u ∈ l.flatMap f, u.oneCell' = true := by
 intro u hu
 obtain ⟨x, _, hx⟩ := List.mem_flatMap.1 hu
 exact hf x u hx
theorem sh_one (x : Sh) : ∀ u ∈ shC x, u.oneCell' = true := by intro u hu; simp [shC] at hu; rcases hu with rfl | rfl <;> rfl
theorem tk_one (x : Tk) : ∀ u ∈ tkC x, u.oneCell' = true := by intro u hu; simp [tkC] at hu; rcases hu with rfl | rfl | rfl | rfl | rfl | rfl <;> rfl
theorem el_one (x : El) : ∀ u ∈ elC x, u.oneCell' = true := by intro u hu; simp [elC] at hu; rcases hu with rfl | rfl | rfl <;> rfl
theorem clone_sr (A : Option Addr) (n c : Nat) (l : List Sh) (w : World) (h : Rlz shC 2 sh0 w A n l) (hn : n ≤ 1000000) :
  Calls prog 62 #[.slice A n c] w (CloneV 79 2 n (l.flatMap shC) w) := by
 have hq := fun W => Lib.run_eql_slice_nil (P := prog) W 71 79 A n c 0 0 underlying71
 have h := h.src sl9
 have h1 := all_one sh_one l
 generalize l.flatMap shC = news at *
 cases hA : A with
 | none =>
  subst hA
  obtain ⟨h2, h3⟩ := h
  have h0 : n = 0 := by
   rcases Nat.eq_zero_or_pos n with h0 | h0
   ·
    exact h0
   ·
    obtain ⟨b, off, h, _⟩ := h3 h0
    cases h
  subst h0
  have hl : news = [] := List.eq_nil_of_length_eq_zero (by simpa using h2)
  subst hl
  clear h3 h2 h1
  go_enter func62, ntmps62
  go_wp2
  go_ret
  exact ⟨⟨none, 0, rfl, World.ownsRow_nil _ _ _ _⟩, Below.refl _ _⟩
 | some ad =>
  subst hA
  have HS := hid (h.below (bz1 w (.cells #[] 79)))
  have H1 := hid h1
  clear h h1
  have HO := hid (World.ownsRow_lit (e := 79) (size := 2) (base := w.heap.size) w #[] 0 (Nat.le_refl _) (by decide) rfl)
  go_enter func62, ntmps62
  go_wp2_with (at_builtin; refine wn9 _ rfl _ _ 71 rfl 79 _ 2 16 underlying71 info_share rfl (by decide) rfl HO.out _ _ _ _ rfl HS.out H1.out (by omega) (by omega) (by simp) ?_; intro v' w1 ho hg)
  obtain ⟨A', c', rfl⟩ := oL9 ho
  refine bodyPost_ret (v := .slice A' n c') (by simp [results, results62, go_sem]) rfl ?_
  refine ⟨⟨A', c', rfl, ?_⟩, (bz1 _ _).grown hg (by simp) (fun k hk => by injection hk with hk; exact Nat.le_of_eq hk)⟩
  simpa using ho
theorem clone_ss (A : Option Addr) (n c : Nat) (l : List Sh) (w : World) (h : Rlz shC 2 sh0 w A n l) (hn : n ≤ 1000000) :
  Calls prog 77 #[.slice A n c] w (CloneV 79 2 n (l.flatMap shC) w) := by
 have hq := fun W => Lib.run_eql_slice_nil (P := prog) W 42 79 A n c 0 0 underlying42
 have h := h.src sl9
 have h1 := all_one sh_one l
 generalize l.flatMap shC = news at *
 cases hA : A with
 | none =>
  subst hA
  obtain ⟨h2, h3⟩ := h
  have h0 : n = 0 := by
   rcases Nat.eq_zero_or_pos n with h0 | h0
   ·
    exact h0
   ·
    obtain ⟨b, off, h, _⟩ := h3 h0
    cases h
  subst h0
  have hl : news = [] := List.eq_nil_of_length_eq_zero (by simpa using h2)
  subst hl
  clear h3 h2 h1
  go_enter func77, ntmps77
  go_wp2
  go_ret
  exact ⟨⟨none, 0, rfl, World.ownsRow_nil _ _ _ _⟩, Below.refl _ _⟩
 | some ad =>
  subst hA
  have HS := hid (h.below (bz1 w (.cells #[] 79)))
  have H1 := hid h1
  clear h h1
  have HO := hid (World.ownsRow_lit (e := 79) (size := 2) (base := w.heap.size) w #[] 0 (Nat.le_refl _) (by decide) rfl)
  go_enter func77, ntmps77
  go_wp2_with (at_builtin; refine wn9 _ rfl _ _ 42 rfl 79 _ 2 16 underlying42 info_share rfl (by decide) rfl HO.out _ _ _ _ rfl HS.out H1.out (by omega) (by omega) (by simp) ?_; intro v' w1 ho hg)
  obtain ⟨A', c', rfl⟩ := oL9 ho
  refine bodyPost_ret (v := .slice A' n c') (by simp [results, results77, go_sem]) rfl ?_
  refine ⟨⟨A', c', rfl, ?_⟩, (bz1 _ _).grown hg (by simp) (fun k hk => by injection hk with hk; exact Nat.le_of_eq hk)⟩
  simpa using ho
theorem clone_tk (A : Option Addr) (n c : Nat) (l : List Tk) (w : World) (h : Rlz tkC 6 tk0 w A n l) (hn : n ≤ 1000000) :
  Calls prog 78 #[.slice A n c] w (CloneV 116 6 n (l.flatMap tkC) w) := by
 have hq := fun W => Lib.run_eql_slice_nil (P := prog) W 43 116 A n c 0 0 underlying43
 have h := h.src tkC_len'
 have h1 := all_one tk_one l
 generalize l.flatMap tkC = news at *
 cases hA : A with
 | none =>
  subst hA
  obtain ⟨h2, h3⟩ := h
  have h0 : n = 0 := by
   rcases Nat.eq_zero_or_pos n with h0 | h0
   ·
    exact h0
   ·
    obtain ⟨b, off, h, _⟩ := h3 h0
    cases h
  subst h0
  have hl : news = [] := List.eq_nil_of_length_eq_zero (by simpa using h2)
  subst hl
  clear h3 h2 h1
  go_enter func78, ntmps78
  go_wp2
  go_ret
  exact ⟨⟨none, 0, rfl, World.ownsRow_nil _ _ _ _⟩, Below.refl _ _⟩
 | some ad =>
  subst hA
  have HS := hid (h.below (bz1 w (.cells #[] 116)))
  have H1 := hid h1
  clear h h1
  have HO := hid (World.ownsRow_lit (e := 116) (size := 6) (base := w.heap.size) w #[] 0 (Nat.le_refl _) (by decide) rfl)
  go_enter func78, ntmps78
  go_wp2_with (at_builtin; refine wn9 _ rfl _ _ 43 rfl 116 _ 6 48 underlying43 info_taken rfl (by decide) rfl HO.out _ _ _ _ rfl HS.out H1.out (by omega) (by omega) (by simp) ?_; intro v' w1 ho hg)
  obtain ⟨A', c', rfl⟩ := oL9 ho
  refine bodyPost_ret (v := .slice A' n c') (by simp [results, results78, go_sem]) rfl ?_
  refine ⟨⟨A', c', rfl, ?_⟩, (bz1 _ _).grown hg (by simp) (fun k hk => by injection hk with hk; exact Nat.le_of_eq hk)⟩
  simpa using ho
theorem clone_el (A : Option Addr) (n c : Nat) (l : List El) (w : World) (h : Rlz elC 3 el0 w A n l) (hn : n ≤ 1000000) :
  Calls prog 47 #[.slice A n c] w (CloneV 98 3 n (l.flatMap elC) w) := by
 have hq := fun W => Lib.run_eql_slice_nil (P := prog) W 35 98 A n c 0 0 underlying35
 have h := h.src elC_len
 have h1 := all_one el_one l
 generalize l.flatMap elC = news at *
 cases hA : A with
 | none =>
  subst hA
  obtain ⟨h2, h3⟩ := h
  have h0 : n = 0 := by
   rcases Nat.eq_zero_or_pos n with h0 | h0
   ·
    exact h0
   ·
    obtain ⟨b, off, h, _⟩ := h3 h0
    cases h
  subst h0
  have hl : news = [] := List.eq_nil_of_length_eq_zero (by simpa using h2)
  subst hl
  clear h3 h2 h1
  go_enter func47, ntmps47
  go_wp2
  go_ret
  exact ⟨⟨none, 0, rfl, World.ownsRow_nil _ _ _ _⟩, Below.refl _ _⟩
 | some ad =>
  subst hA
  have HS := hid (h.below (bz1 w (.cells #[] 98)))
  have H1 := hid h1
  clear h h1
  have HO := hid (World.ownsRow_lit (e := 98) (size := 3) (base := w.heap.size) w #[] 0 (Nat.le_refl _) (by decide) rfl)
  go_enter func47, ntmps47
  go_wp2_with (at_builtin; refine wn9 _ rfl _ _ 35 rfl 98 _ 3 32 underlying35 info_el rfl (by decide) rfl HO.out _ _ _ _ rfl HS.out H1.out (by omega) (by omega) (by simp) ?_; intro v' w1 ho hg)
  obtain ⟨A', c', rfl⟩ := oL9 ho
  refine bodyPost_ret (v := .slice A' n c') (by simp [results, results47, go_sem]) rfl ?_
  refine ⟨⟨A', c', rfl, ?_⟩, (bz1 _ _).grown hg (by simp) (fun k hk => by injection hk with hk; exact Nat.le_of_eq hk)⟩
  simpa using ho
def okT (cts : List Ct) (l : List Bs) (nc n : Nat) : Prop := (∀ k, k < n → okY cts l nc k = true) ∧ ∀ k i, k < n → i < nc → okS (rowY cts l nc) k i = true
def ToDR (cts : List Ct) (l : List Bs) (nc n : Nat) (w : World) (e : Ending) (w' : World) : Prop :=
  ((okT cts l nc n ∧ ∃ v, e = .returned (.tuple #[v, .int .i64 0]) ∧ OwnS w' w.heap.size v nc (sumL (rowY cts l nc) nc n 0)) ∨
   (¬ okT cts l nc n ∧ e = .returned (.tuple #[.slice none 0 0, .int .i64 10]))) ∧ Below w.heap.size w w'
theorem todate_c (cts : List Ct) (As Ac Ak A : Option Addr) (ns cs nc cc nk ck n c : Nat) (lim rnd : Int) (l : List Bs) (w : World) (hs : CtSl w Ac nc cts) (hok : ∀ k, k < nc → CtOK (cts.getD k ct0)) (hl : BsSl w A n l) (hn : nc ≤ 64) (hn2 : n ≤ 1000) :
  Calls prog 83 #[.agg #[.slice As ns cs, .slice Ac nc cc, .slice Ak nk ck, .int .i64 lim, .int .i64 rnd], .slice A n c] w (ToDR cts l nc n w) := by
 have KY := hid (fun W h1 h2 => year_c cts As Ac Ak A ns cs nc cc nk ck n c lim rnd l W h1 hok h2 (by omega) hn2)
 have HS := hid hs
 have HL := hid hl
 have z := Blk.mk w 26 #[.slice As ns cs, .slice Ac nc cc, .slice Ak nk ck, .int .i64 lim, .int .i64 rnd]
 have hb0 := bz1 w (.cells #[.slice As ns cs, .slice Ac nc cc, .slice Ak nk ck, .int .i64 lim, .int .i64 rnd] 26)
 clear hs hl hok
 go_enter func83, ntmps83
 go_wp2_with fail
 refine (KY.out _ (HS.out.below hb0) (HL.out.below hb0)).mono ?_
 rintro e w1 ⟨⟨hyes, v, rfl, hv⟩ | ⟨⟨k, hk, hno⟩, rfl⟩, hb1⟩
 case inr =>
  have HN : Hid (¬ okT cts l nc n) := fun h => by
   have := h.1 k hk
   rw [hno] at this
   cases this
  clear hno
  go_wp2_with fail
  go_ret2
  exact ⟨Or.inr ⟨HN.out, rfl⟩, bT hb0 hb1⟩
 have HY := hid hyes
 clear hyes
 obtain ⟨A1, c1, rfl, hc1, hr⟩ := hv.sl (by omega)
 have HV := hid hv
 have KS := hid (sum_c (rowY cts l nc) A1 n c1 nc w1 hr hn)
 have z1 := z.t hb1
 obtain ⟨p0, p1, p2, p3, p4⟩ := z1.all5
 have hb2 := bT hb0 hb1
 clear hv hr
 go_wp2_with fail
 refine KS.out.mono ?_
 rintro e w2 ⟨⟨hyes, v, rfl, hv⟩ | ⟨⟨k, i, hk, hi, hno⟩, rfl⟩, hb3⟩
 ·
  have HT : Hid (okT cts l nc n) := ⟨HY.out, hyes⟩
  have HVV := hid hv
  clear hyes hv
  go_wp2_with fail
  go_ret2
  exact ⟨Or.inl ⟨HT.out, v, rfl, HVV.out.1, oM9 HVV.out.2 hb2.size⟩, bT hb2 hb3⟩
 ·
  have HN : Hid (¬ okT cts l nc n) := fun h => by
   have := h.2 k i hk hi
   rw [hno] at this
   cases this
  clear hno
  go_wp2_with fail
  go_ret2
  exact ⟨Or.inr ⟨HN.out, rfl⟩, bT hb2 hb3⟩
theorem own_put {w : World} {base size n cap g : Nat} {e : TypeId} {xs : List Value} (h : w.ownsRow base e size (.slice (some ⟨g, 0, none⟩) n cap) n xs) (j : Nat) (u : Value) :
  (w.setCell ⟨g, j, none⟩ u).ownsRow base e size (.slice (some ⟨g, 0, none⟩) n cap) n (xs.set j u) := by
 obtain ⟨h1, h2 | ⟨g', cap', cur, hv, hb, hg, hle, hm, hs, ht⟩⟩ := h
 ·
  cases h2.1
 ·
  injection hv with hA _ hc
  injection hA with hA
  injection hA with hg' _
  subst hg'
  subst hc
  refine ⟨by rw [List.length_set]; exact h1, Or.inr ⟨g, cap, cur.setIfInBounds j u, rfl, hb, heap_setCell_same w g j cur e u hg, hle, hm, by simpa using hs, ?_⟩⟩
  rw [← ht]
  simp [List.take_set]
theorem odC_set (l : List Od) (a : Nat) (ha : a < l.length) (z : Od) : (l.set a z).flatMap odC = ((l.take a).flatMap odC) ++ (odC z ++ (l.drop (a + 1)).flatMap odC) := by
 rw [List.set_eq_take_append_cons_drop, if_pos ha, List.flatMap_append, List.flatMap_cons]
theorem odC_self (l : List Od) (a : Nat) (ha : a < l.length) : l.flatMap odC = ((l.take a).flatMap odC) ++ (odC (l.getD a od0) ++ (l.drop (a + 1)).flatMap odC) := by
 have := odC_set l a ha (l.getD a od0)
 rwa [show l.set a (l.getD a od0) = l by rw [gaz l od0 ha]; exact List.set_getElem_self ha] at this
theorem odC_at (l : List Od) (a : Nat) (ha : a < l.length) (j : Nat) (hj : j < 7) : (l.flatMap odC)[a * 7 + j]? = (odC (l.getD a od0))[j]? := by
 have hX : ((l.take a).flatMap odC).length = a * 7 := by rw [odC_flat, List.length_take]; omega
 rw [odC_self l a ha, List.getElem?_append_right (by omega), hX, show a * 7 + j - a * 7 = j by omega, List.getElem?_append_left (by rw [odC_len]; exact hj)]
theorem odC_put (l : List Od) (a : Nat) (ha : a < l.length) (s c : Int) :
  ((l.flatMap odC).set (a * 7 + 5) (.int .i64 s)).set (a * 7 + 6) (.int .i64 c) = (l.set a { l.getD a od0 with tk := s, ar := c }).flatMap odC ∧
  ((l.flatMap odC).set (a * 7 + 6) (.int .i64 c)).set (a * 7 + 5) (.int .i64 s) = (l.set a { l.getD a od0 with tk := s, ar := c }).flatMap odC := by
 have hX : ((l.take a).flatMap odC).length = a * 7 := by rw [odC_flat, List.length_take]; omega
 rw [odC_set l a ha, odC_self l a ha]
 generalize l.getD a od0 = z
 generalize (l.take a).flatMap odC = X at *
 generalize (l.drop (a + 1)).flatMap odC = Y
 constructor
 ·
  rw [List.set_append_right _ _ (by omega), List.set_append_right _ _ (by omega)]
  rw [show a * 7 + 5 - X.length = 5 by omega, show a * 7 + 6 - X.length = 6 by omega]
  rfl
 ·
  rw [List.set_append_right _ _ (by omega), List.set_append_right _ _ (by omega)]
  rw [show a * 7 + 5 - X.length = 5 by omega, show a * 7 + 6 - X.length = 6 by omega]
  rfl
def TookR (l : List Od) (ts : List Tk) (p : Nat) (w : World) (e : Ending) (w' : World) : Prop := e = .returned (.int .i64 (tookE l ts)) ∧ Bk w' p (tookL l ts) ∧ w.grownBy w' (some p)
theorem btook_c (p : Nat) (l : List Od) (A0 : Option Addr) (m c0 : Nat) (ts : List Tk) (w : World) (hb : Bk w p l) (hn2 : l.length ≤ 1000) (ht : TkSl w A0 m ts) :
  Calls prog 150 #[.pointer (some ⟨p, 0, none⟩), .slice A0 m c0] w (TookR l ts p w) := by
 have hlt := hb.lt
 have HBK := hid hb
 obtain ⟨A, c, hB, hnc, hs, hO⟩ := hb.sl
 obtain ⟨n, hn⟩ : ∃ n, n = l.length := ⟨_, rfl⟩
 rw [← hn] at hB hs hn2
 have KC := hid (sclone_c A n c l w hs (by omega))
 have HL := hid hn
 have HT := hid ht
 have HM := hid ht.1
 have hm9 := ht.2.1
 have HB := hid hB
 have d0 := hB.cell 0
 have HTL := hid (tookT_len l ts)
 have HSK : Hid (∀ k, k ≤ m → (tTz l ts k).1 ≠ 0 → tookE l ts = (tTz l ts k).1) := fun k hk h => by
  have := tookT_stick l ts k h m hk
  unfold tookE; rw [← HM.out, this]
 have HST : Hid (∀ k, (tTz l ts k).1 = 0 → tTz l ts (k + 1) = if tookX (tTz l ts k).2 (ts.getD k tk0) ≠ 0 then (tookX (tTz l ts k).2 (ts.getD k tk0), (tTz l ts k).2) else (0, tookA (tTz l ts k).2 (ts.getD k tk0))) := fun k h => by
  rw [tTz, if_neg (by simp [h])]
 have HERR : Hid (∀ k W r, k ≤ m → Below w.heap.size w W → (tTz l ts k).1 = r → r ≠ 0 → TookR l ts p w (.returned (.int .i64 r)) W) := fun k W r hk hW h hr => by
  have e := HSK.out k hk (by rw [h]; exact hr)
  rw [h] at e
  refine ⟨by rw [e], ?_, grown_row hW _⟩
  rw [tookL, if_neg (by rw [e]; exact hr)]
  exact HBK.out.t hW
 clear hb hB hs hO hn ht hnc
 go_enter func150, ntmps150
 go_wp2_with fail
 refine KC.out.mono ?_
 rintro e w1 ⟨⟨v1, rfl, ho1⟩, hb1⟩
 obtain ⟨A1, cp, rfl⟩ := oL9 ho1.2
 have HO1 := hid ho1.2
 clear ho1
 go_wp2_with fail
 go_loopw [18] (fun i wr => ∃ k : Nat, k ≤ m ∧ i = .int .i64 k ∧ Hid ((tTz l ts k).1 = 0) ∧ wr.ownsRow w.heap.size 213 7 (.slice A1 n cp) n ((tTz l ts k).2.flatMap odC) ∧ Below w.heap.size w wr) (fun i _ => m - (intOf i).toNat)
 case atStart => exact ⟨0, Nat.zero_le _, rfl, rfl, HO1.out, hb1⟩
 case round =>
  obtain ⟨k, hk', rfl, HZ, ho, hbl⟩ := hrel
  have HO := hid ho
  have hsz := hbl.size
  clear ho
  by_cases hk : k < m
  case neg =>
   obtain rfl : k = m := by omega
   have q0 := (HB.out.t hbl).cell 0
   have q1 := (HB.out.t hbl).free 0
   have HF : Hid (TookR l ts p w (.returned (.int .i64 0)) (wr.setCell ⟨p, 0, none⟩ (.slice A1 n cp))) := by
    have e : tookE l ts = 0 := by unfold tookE; rw [← HM.out]; exact HZ.out
    refine ⟨by rw [e], ?_, grown_set hbl p _⟩
    rw [tookL, if_pos e, ← HM.out]
    have hln : n = (tTz l ts k).2.length := by rw [HTL.out]; exact HL.out
    have ho : OwnOd wr w.heap.size (.slice A1 n cp) n (tTz l ts k).2 := ⟨hln, HO.out⟩
    rw [hln] at ho ⊢
    exact Bk.set (HB.out.t hbl) ho hlt
   go_wp2_with fail
   go_ret
   exact HF.out
  obtain ⟨bt, off, rfl, hltb, hat⟩ := (HT.out.below hbl).2.2 (by omega)
  have hcl := hat k hk
  have HS1 := hid (HST.out k HZ.out)
  have HER := hid (HERR.out (k + 1))
  have hL2 := hid (HTL.out k)
  generalize ts.getD k tk0 = x at *
  obtain ⟨xo, xb, xr, xd, xt, xc⟩ := x
  obtain ⟨lk, hlk⟩ : ∃ lk, lk = (tTz l ts k).2 := ⟨_, rfl⟩
  rw [← hlk] at HS1 HO hL2
  obtain ⟨c0, c1, c2, c3, c4, c5⟩ : wr.cell? ⟨bt, off + k * 6, none⟩ = some (.int .i64 xo) ∧ wr.cell? ⟨bt, off + k * 6 + 1, none⟩ = some (.int .i64 xb) ∧ wr.cell? ⟨bt, off + k * 6 + 2, none⟩ = some (.int .i64 xr) ∧ wr.cell? ⟨bt, off + k * 6 + 3, none⟩ = some (.int .i64 xd) ∧ wr.cell? ⟨bt, off + k * 6 + 4, none⟩ = some (.int .i64 xt) ∧ wr.cell? ⟨bt, off + k * 6 + 5, none⟩ = some (.int .i64 xc) := ⟨hcl 0 _ rfl, hcl 1 _ rfl, hcl 2 _ rfl, hcl 3 _ rfl, hcl 4 _ rfl, hcl 5 _ rfl⟩
  have y := Blk.mk wr 116 #[.int .i64 xo, .int .i64 xb, .int .i64 xr, .int .i64 xd, .int .i64 xt, .int .i64 xc]
  have hb2 := bA hbl (.cells #[.int .i64 xo, .int .i64 xb, .int .i64 xr, .int .i64 xd, .int .i64 xt, .int .i64 xc] 116)
  have hln : n = lk.length := by rw [hL2.out]; exact HL.out
  have HLN := hid hln
  have ho2 : OwnOd (wr.alloc (.cells #[.int .i64 xo, .int .i64 xb, .int .i64 xr, .int .i64 xd, .int .i64 xt, .int .i64 xc] 116)) w.heap.size (.slice A1 n cp) n lk := ⟨hln, oB9 HO.out (bz1 _ _)⟩
  obtain ⟨A2, c2, hv2, _, hs2⟩ := ho2.sl
  injection hv2 with e1 _ e2
  subst e1; subst e2
  have KX := hid (oidx3_c A1 n cp lk wr.heap.size xo _ hs2 (y.cell 0) y.lt)
  have HX : Hid (∀ r, tookX lk ⟨xo, xb, xr, xd, xt, xc⟩ = r → r ≠ 0 → ∀ W, Below w.heap.size w W → TookR l ts p w (.returned (.int .i64 r)) W) := fun r h hr W hW => by
   have e := HS1.out
   rw [if_pos (by rw [h]; exact hr)] at e
   exact HER.out W r (by omega) hW (by rw [e]; exact h) hr
  have HG : Hid (tookX lk ⟨xo, xb, xr, xd, xt, xc⟩ = 0 → tTz l ts (k + 1) = (0, tookA lk ⟨xo, xb, xr, xd, xt, xc⟩)) := fun h => by rw [HS1.out, if_neg (by simp [h])]
  clear hcl hat hlk hln hs2 HS1 HER
  go_wp2_with fail
  refine KX.out.mono ?_
  rintro e w2 ⟨⟨h1, rfl⟩ | ⟨h1, rfl⟩, hb3⟩
  case inr =>
   have hB3 := bT hb2 hb3
   have HF := hid (HX.out 3 (by unfold tookX; rw [if_pos (by dsimp only; rw [← HLN.out]; omega)]) (by decide) w2 hB3)
   clear h1
   go_wp2_with fail
   go_ret
   exact HF.out
  have hB3 := bT hb2 hb3
  obtain ⟨a, ha⟩ : ∃ a, a = atO lk xo := ⟨_, rfl⟩
  rw [← ha] at h1 ⊢
  obtain ⟨g, cg, hvg, hgb, hgl, hgc, _⟩ := own_form HO.out (by omega)
  injection hvg with e1 _ e2
  subst e1; subst e2
  have HB3 := hid hB3
  have HRW : Hid (∀ W, Below w2.heap.size w2 W → W.ownsRow w.heap.size 213 7 (.slice (some ⟨g, 0, none⟩) n cp) n (lk.flatMap odC)) := fun W hW => oB9 (oB9 (oB9 HO.out (bz1 _ _)) hb3) hW
  have hal : a < lk.length := by rw [← HLN.out]; exact h1
  have HAL := hid hal
  obtain ⟨tk, htk⟩ : ∃ t, t = (lk.getD a od0).tk := ⟨_, rfl⟩
  have HTA : Hid (tookA lk ⟨xo, xb, xr, xd, xt, xc⟩ = lk.set a { lk.getD a od0 with tk := tk + xt, ar := xc }) := by unfold Hid tookA; rw [htk, ha]
  have HTX : Hid (tookX lk ⟨xo, xb, xr, xd, xt, xc⟩ = if ¬ (mrB tk = true ∧ mrB xt = true ∧ mrB (tk + xt) = true) then 10 else if mrB xc = false then 10 else 0) := by
   unfold Hid tookX
   rw [if_neg (by dsimp only; rw [← ha]; omega), htk, ha]
  have HY5 : Hid (∀ W, Below w2.heap.size w2 W → W.cell? ⟨g, a * 7 + 5, none⟩ = some (.int .i64 tk) ∧ W.cell? ⟨g, a * 7 + 6, none⟩ = some (.int .i64 (lk.getD a od0).ar) ∧ (W.frozen? ⟨g, a * 7 + 5, none⟩ = false ∧ W.frozen? ⟨g, a * 7 + 6, none⟩ = false)) := fun W hW => by
   have hr := HRW.out W hW
   refine ⟨?_, ?_, hr.frozenAt _, hr.frozenAt _⟩
   ·
    rw [hr.cellAt (a * 7 + 5) (by omega), odC_at lk a HAL.out 5 (by decide), htk]; rfl
   ·
    rw [hr.cellAt (a * 7 + 6) (by omega), odC_at lk a HAL.out 6 (by decide)]; rfl
  have HPT : Hid (∀ W, Below w2.heap.size w2 W → tTz l ts (k + 1) = (0, tookA lk ⟨xo, xb, xr, xd, xt, xc⟩) → ((W.setCell ⟨g, a * 7 + 5, none⟩ (.int .i64 (tk + xt))).setCell ⟨g, a * 7 + 6, none⟩ (.int .i64 xc)).ownsRow w.heap.size 213 7 (.slice (some ⟨g, 0, none⟩) n cp) n ((tTz l ts (k + 1)).2.flatMap odC) ∧ ((W.setCell ⟨g, a * 7 + 6, none⟩ (.int .i64 xc)).setCell ⟨g, a * 7 + 5, none⟩ (.int .i64 (tk + xt))).ownsRow w.heap.size 213 7 (.slice (some ⟨g, 0, none⟩) n cp) n ((tTz l ts (k + 1)).2.flatMap odC)) := fun W hW he => by
   have hp := odC_put lk a HAL.out (tk + xt) xc
   rw [he, HTA.out]
   dsimp only
   rw [← hp.1]
   constructor
   ·
    exact own_put (own_put (HRW.out W hW) _ _) _ _
   ·
    rw [hp.1, ← hp.2]
    exact own_put (own_put (HRW.out W hW) _ _) _ _
  have y2 := y.t hb3
  have G : Hid (∀ W, Below w2.heap.size w2 W → Below w2.heap.size w2 W ∧ W.cell? ⟨g, a * 7 + 5, none⟩ = some (.int .i64 tk) ∧ W.cell? ⟨wr.heap.size, 4, none⟩ = some (.int .i64 xt)) := fun W hW => ⟨hW, (HY5.out W hW).1, (y2.t hW).cell 4⟩
  have HYB := hid y2
  have v1 : decide ((a : Int) < 0) = false := by simp
  have k0 : (0 : Int) ≤ (a : Int) := by omega
  have k1 : (a : Int) < (n : Int) := by omega
  have k2 : ((a : Int)).toNat = a := by omega
  clear ha hal htk y2
  by_cases h3 : mrB tk = true ∧ mrB xt = true ∧ mrB (tk + xt) = true
  case neg =>
   have KA := hid (fun W => add_f tk xt W h3)
   have HF := hid (fun W hW => HX.out 10 (by rw [HTX.out, if_pos h3]) (by decide) W hW)
   clear h3
   go_wp2_with fail
   go_region_held3 (fun W => Below w2.heap.size w2 W ∧ W.cell? ⟨g, a * 7 + 5, none⟩ = some (.int .i64 tk) ∧ W.cell? ⟨wr.heap.size, 4, none⟩ = some (.int .i64 xt))
    (first | assumption | exact G.out _ (b0 _).drew | (exact sK G.out (by assumption) (by assumption)))
    (first | (go_at_call 124; (with_reducible refine (KA.out _).mono ?_); rintro e w3 ⟨rfl, hb4⟩))
   all_goals
    have hbz := bT HB3.out (show Below w2.heap.size w2 _ ∧ _ from by assumption).1
    go_wp2_with fail
    go_ret
    exact HF.out _ hbz
  have KA := hid (fun W => add_t tk xt W h3.1 h3.2.1 h3.2.2)
  have h3s := miz.1 h3.2.2
  obtain ⟨s1, s2⟩ := h3s
  obtain ⟨mc, hmc⟩ : ∃ b, mrB xc = b := ⟨_, rfl⟩
  have HTX2 : Hid (tookX lk ⟨xo, xb, xr, xd, xt, xc⟩ = if mc = false then 10 else 0) := by rw [HTX.out, if_neg (fun h => h h3), hmc]; rfl
  have KR := hid (fun b W h => r1z b 0 1 xc W h)
  rw [hmc] at KR
  clear h3 hmc HTX
  go_wp2_with fail
  go_region_held3 (fun W => Below w2.heap.size w2 W ∧ W.cell? ⟨g, a * 7 + 5, none⟩ = some (.int .i64 tk) ∧ W.cell? ⟨wr.heap.size, 4, none⟩ = some (.int .i64 xt))
   (first | assumption | exact G.out _ (b0 _).drew | (exact sK G.out (by assumption) (by assumption)))
   (first | (go_at_call 124; (with_reducible refine (KA.out _).mono ?_); rintro e w3 ⟨rfl, hb4⟩))
  all_goals
   have hbw := (show Below w2.heap.size w2 _ ∧ _ from by assumption).1
   have y3 := HYB.out.t hbw
   have x5 := y3.cell 5
   have hbz := bT HB3.out hbw
   have HBW := hid hbw
   clear y3 hbw
   go_wp2_with fail
   refine (KR.out _ _ (by simp [ca9])).mono ?_
   rintro e w4 ⟨rfl, rfl⟩
   cases mc
   ·
    have HF := hid (HX.out 10 (by rw [HTX2.out, if_pos rfl]) (by decide) _ (bA hbz (.cells #[.int .i64 xc] 2)))
    go_wp2_with fail
    go_ret
    exact HF.out
   ·
    have HGX := hid (HG.out (by rw [HTX2.out, if_neg (by decide)]))
    have hbq := bA HBW.out (.cells #[.int .i64 xc] 2)
    have HQ := hid (HPT.out _ hbq HGX.out)
    have HBQ := hid (bA hbz (.cells #[.int .i64 xc] 2))
    obtain ⟨f5, f6, g5, g6⟩ := HY5.out _ hbq
    have x6 := (HYB.out.t hbq).cell 5
    clear x5
    have gne : ¬ g = wr.heap.size := by omega
    have gne2 : ¬ wr.heap.size = g := by omega
    clear hbq
    go_wp2_with fail
    go_region
    all_goals
     go_wp2_with fail
     go_roundw
     case rel => exact ⟨k + 1, by omega, by go_num, (by show (tTz l ts (k + 1)).1 = 0; rw [HGX.out]), (by first | exact HQ.out.1 | exact HQ.out.2), (bS (p := ⟨g, _, none⟩) (bS (p := ⟨g, _, none⟩) HBQ.out hgb _) hgb _).drew⟩
     case measure => simp [intOf]; omega
structure Kp (N : Nat) (X : Nat → Prop) (w w' : World) : Prop where
 os : w'.os = w.os
 tape : w'.tape = w.tape
 output : w'.output = w.output
 size : w.heap.size ≤ w'.heap.size
 block : ∀ k, k < N → ¬ X k → w'.heap[k]? = w.heap[k]?
theorem Kp.refl (N : Nat) (X : Nat → Prop) (w : World) : Kp N X w w := ⟨rfl, rfl, rfl, Nat.le_refl _, fun _ _ _ => rfl⟩
theorem Kp.trans {N : Nat} {X : Nat → Prop} {a b c : World} (h : Kp N X a b) (k : Kp N X b c) : Kp N X a c :=
 ⟨k.os.trans h.os, k.tape.trans h.tape, k.output.trans h.output, Nat.le_trans h.size k.size, fun i hi hx => (k.block i hi hx).trans (h.block i hi hx)⟩
theorem Kp.mono {N : Nat} {X Y : Nat → Prop} {a b : World} (h : Kp N X a b) (hxy : ∀ k, X k → Y k) : Kp N Y a b :=
 ⟨h.os, h.tape, h.output, h.size, fun i hi hx => h.block i hi (fun hX => hx (hxy i hX))⟩
theorem Kp.below {N B : Nat} {X : Nat → Prop} {a b : World} (h : Below B a b) (hN : N ≤ B) : Kp N X a b := ⟨h.os, h.tape, h.output, h.size, fun i hi _ => h.block i (by omega)⟩
theorem Kp.grown {N : Nat} {X : Nat → Prop} {a b : World} {row : Option Nat} (h : a.grownBy b row) (hN : N ≤ a.heap.size) (hr : ∀ k, row = some k → N ≤ k ∨ X k) : Kp N X a b :=
 ⟨h.os, h.tape, h.output, h.size, fun i hi hx => h.block i (by omega) (fun he => by
  rcases hr i he.symm with h1 | h1
  ·
   omega
  ·
   exact hx h1)⟩
theorem Kp.set {N : Nat} {X : Nat → Prop} {a b : World} (h : Kp N X a b) {p : Addr} (hp : N ≤ p.block ∨ X p.block) (v : Value) : Kp N X a (b.setCell p v) := by
 refine ⟨h.os, h.tape, h.output, by simpa using h.size, fun i hi hx => ?_⟩
 rw [heap_setCell_other b p i v (fun he => by
  rcases hp with h1 | h1
  ·
   omega
  ·
   rw [← he] at h1; exact hx h1)]
 exact h.block i hi hx
theorem Kp.alloc {N : Nat} {X : Nat → Prop} {a b : World} (h : Kp N X a b) (hN : N ≤ a.heap.size) (o : Obj) : Kp N X a (b.alloc o) :=
 h.trans (Kp.below ((Below.refl b.heap.size b).alloc (Nat.le_refl _) o) (Nat.le_trans hN h.size))
theorem own_kp {N : Nat} {X : Nat → Prop} {a b : World} {base size n : Nat} {e : TypeId} {v : Value} {xs : List Value} (h : a.ownsRow base e size v n xs) (hk : Kp N X a b) (hv : ∀ g, v.ownBlock = some g → g < N ∧ ¬ X g) : b.ownsRow base e size v n xs := by
 refine ⟨h.1, ?_⟩
 rcases h.2 with hl | ⟨g, cap, cur, rfl, h1, hr, hrest⟩
 ·
  exact Or.inl hl
 ·
  obtain ⟨h2, h3⟩ := hv g rfl
  exact Or.inr ⟨g, cap, cur, rfl, h1, (hk.block g h2 h3).trans hr, hrest⟩
theorem Blk.kp {N : Nat} {X : Nat → Prop} {a b : World} {g : Nat} {t : TypeId} {cs : Array Value} (h : Blk a g t cs) (hk : Kp N X a b) (h1 : g < N) (h2 : ¬ X g) : Blk b g t cs := (hk.block g h1 h2).trans h
/-! ### The numbers that are kept -/
theorem own_at {w : World} {base n c : Nat} {A : Option Addr} {l : List Od} (h : OwnOd w base (.slice A n c) n l) : OdSl w A n l := by
 obtain ⟨A', c', he, _, hs⟩ := h.sl
 injection he with h1 _ _
 subst h1
 exact hs
def SvR (l : List Od) (net prot : Int) (n : Nat) (w : World) (e : Ending) (w' : World) : Prop :=
  ((sVz l net prot = 0 ∧ ∃ v, e = .returned (.tuple #[v, .int .i64 (leftA l net prot n), .int .i64 0]) ∧ OwnTk w' w.heap.size v n (tkL l net prot n)) ∨
   (sVz l net prot ≠ 0 ∧ e = .returned (.tuple #[.slice none 0 0, .int .i64 0, .int .i64 (sVz l net prot)]))) ∧ Below w.heap.size w w'
theorem serve_all (net prot : Int) (A : Option Addr) (n c : Nat) (l : List Od) (w : World) (hl : OdSl w A n l) (hok : ∀ k, k < n → OdOK (l.getD k od0)) (hn2 : n ≤ 1000) :
  Calls prog 148 #[.int .i64 net, .int .i64 prot, .slice A n c] w (SvR l net prot n w) := by
 have hn := hl.1
 by_cases h1 : mrB net = true ∧ mrB prot = true
 ·
  by_cases h2 : prot < 0
  ·
   have e := serveE_r (l := l) h1 h2
   refine (serve_r net prot A n c w h1 h2).mono ?_
   rintro ee w' ⟨rfl, hb⟩
   exact ⟨Or.inr ⟨by rw [e]; decide, by rw [e]⟩, hb⟩
  ·
   refine (serve_c net prot A n c l w h1.1 h1.2 (by omega) hl hok hn2).mono ?_
   rintro ee w' ⟨⟨h3, v, rfl, ho⟩ | ⟨k, hk, h4, h5, rfl⟩, hb⟩
   ·
    exact ⟨Or.inl ⟨serveE_all h1 (by omega) (fun k hk => h3 k (by omega)), v, rfl, ho⟩, hb⟩
   ·
    have e := serveE_one h1 (by omega) (show k < l.length by omega) h5
    exact ⟨Or.inr ⟨by rw [e]; decide, by rw [e]⟩, hb⟩
 ·
  have e := serveE_o (l := l) h1
  refine (serve_o net prot A n c w h1).mono ?_
  rintro ee w' ⟨rfl, hb⟩
  exact ⟨Or.inr ⟨by rw [e]; decide, by rw [e]⟩, hb⟩
theorem serve_yes (net prot : Int) (A : Option Addr) (n c : Nat) (l : List Od) (w : World) (hl : OdSl w A n l) (hok : ∀ k, k < n → OdOK (l.getD k od0)) (hn2 : n ≤ 1000) (h : sVz l net prot = 0) :
  Calls prog 148 #[.int .i64 net, .int .i64 prot, .slice A n c] w fun e w' => ∃ v, (e = .returned (.tuple #[v, .int .i64 (leftA l net prot n), .int .i64 0]) ∧ OwnTk w' w.heap.size v n (tkL l net prot n)) ∧ Below w.heap.size w w' := by
 refine (serve_all net prot A n c l w hl hok hn2).mono ?_
 rintro e w' ⟨⟨_, v, h2, h3⟩ | ⟨h2, _⟩, hb⟩
 ·
  exact ⟨v, ⟨h2, h3⟩, hb⟩
 ·
  exact absurd h h2
theorem serve_no (net prot : Int) (A : Option Addr) (n c : Nat) (l : List Od) (w : World) (hl : OdSl w A n l) (hok : ∀ k, k < n → OdOK (l.getD k od0)) (hn2 : n ≤ 1000) (r : Int) (hr : sVz l net prot = r) (h : r ≠ 0) :
  Calls prog 148 #[.int .i64 net, .int .i64 prot, .slice A n c] w fun e w' => e = .returned (.tuple #[.slice none 0 0, .int .i64 0, .int .i64 r]) ∧ Below w.heap.size w w' := by
 subst hr
 refine (serve_all net prot A n c l w hl hok hn2).mono ?_
 rintro e w' ⟨⟨h2, _⟩ | ⟨_, h2⟩, hb⟩
 ·
  exact absurd h2 h
 ·
  exact ⟨h2, hb⟩
theorem od_of {l : List Od} (h : GoodA l) {n : Nat} (hn : n = l.length) : ∀ k, k < n → OdOK (l.getD k od0) := fun k hk => (h.at (by omega)).1
theorem abook_no (net prot : Int) (p : Nat) (l : List Od) (w : World) (hb : Bk w p l) (hg : GoodA l) (r : Int) (hr : sVz l net prot = r) (h : r ≠ 0) :
  Calls prog 108 #[.int .i64 net, .int .i64 prot, .pointer (some ⟨p, 0, none⟩)] w fun e w' => e = .returned (.tuple #[.slice none 0 0, .int .i64 0, .int .i64 r]) ∧ Below w.heap.size w w' := by
 have hlen := hg.len
 obtain ⟨n, hn⟩ : ∃ n, n = l.length := ⟨_, rfl⟩
 have KL := blist_c p l w hb (by omega)
 unfold GivesOd at KL
 rw [← hn] at KL hlen
 have HKL := hid KL
 have KS := hid (fun A c W hs => serve_no net prot A n c l W hs (od_of hg hn) (by omega) r hr h)
 have v0 : (r != 0) = true := by simpa using h
 clear KL hr h hn hb
 go_enter func108, ntmps108
 go_wp2_with fail
 refine HKL.out.mono ?_
 rintro e w1 ⟨⟨v1, rfl, ho⟩, hb1⟩
 obtain ⟨A1, c1, rfl⟩ := oL9 ho.2
 have HS := hid (own_at ho)
 have HB1 := hid hb1
 clear ho hb1
 go_wp2_with fail
 refine (KS.out A1 c1 _ HS.out).mono ?_
 rintro e w2 ⟨rfl, hb2⟩
 have HB2 := hid (bT HB1.out hb2)
 clear hb2
 go_wp2_with fail
 go_ret3
 exact ⟨rfl, HB2.out⟩
theorem abook_f (net prot : Int) (p : Nat) (l : List Od) (w : World) (hb : Bk w p l) (hg : GoodA l) (h : sVz l net prot = 0) (ht : tookE l (tkL l net prot l.length) ≠ 0) :
  Calls prog 108 #[.int .i64 net, .int .i64 prot, .pointer (some ⟨p, 0, none⟩)] w fun e w' => (e = .returned (.tuple #[.slice none 0 0, .int .i64 0, .int .i64 10]) ∧ Bk w' p l) ∧ w.grownBy w' (some p) := by
 have hlen := hg.len
 obtain ⟨h10, hll⟩ := took_turn_f hg.ids (turn_tk l net prot) ht
 obtain ⟨n, hn⟩ : ∃ n, n = l.length := ⟨_, rfl⟩
 have KL := blist_c p l w hb (by omega)
 unfold GivesOd at KL
 rw [← hn] at KL hlen
 have HKL := hid KL
 have KS := hid (fun A c W hs => serve_yes net prot A n c l W hs (od_of hg hn) (by omega) h)
 have HBK := hid hb
 have KT : Hid (∀ A c W, Bk W p l → TkSl W A n (tkL l net prot n) → Calls prog 150 #[.pointer (some ⟨p, 0, none⟩), .slice A n c] W fun e w' => e = .returned (.int .i64 10) ∧ Bk w' p l ∧ W.grownBy w' (some p)) := fun A c W hk hs => by
  have := btook_c p l A n c _ W hk (by omega) hs
  rw [hn] at this ⊢
  refine this.mono ?_
  unfold TookR
  rw [h10, hll]
  exact fun e w' h => h
 clear KL h ht hn hb h10 hll
 go_enter func108, ntmps108
 go_wp2_with fail
 refine HKL.out.mono ?_
 rintro e w1 ⟨⟨v1, rfl, ho⟩, hb1⟩
 obtain ⟨A1, c1, rfl⟩ := oL9 ho.2
 have HS := hid (own_at ho)
 have HB1 := hid hb1
 clear ho hb1
 go_wp2_with fail
 refine (KS.out A1 c1 _ HS.out).mono ?_
 rintro e w2 ⟨v2, ⟨rfl, ho2⟩, hb2⟩
 obtain ⟨A2, c2, rfl⟩ := oL9 ho2.2
 obtain ⟨_, _, he, hsl⟩ := ho2.sl
 injection he with e1 _ e2
 subst e1; subst e2
 have HB2 := hid (bT HB1.out hb2)
 have HSL := hid hsl
 clear hb2 ho2 hsl
 go_wp2_with fail
 refine (KT.out A2 c2 _ (HBK.out.t HB2.out) HSL.out).mono ?_
 rintro e w3 ⟨rfl, hk3, hg3⟩
 have HG := hid ((grown_of_below HB2.out (some p)).trans hg3)
 have HK := hid hk3
 clear hk3 hg3
 go_wp2_with fail
 go_ret3
 exact ⟨⟨rfl, HK.out⟩, HG.out⟩
theorem abook_t (net prot : Int) (p : Nat) (l : List Od) (w : World) (hb : Bk w p l) (hg : GoodA l) (h : sVz l net prot = 0) (ht : tookE l (tkL l net prot l.length) = 0) :
  Calls prog 108 #[.int .i64 net, .int .i64 prot, .pointer (some ⟨p, 0, none⟩)] w fun e w' => ∃ v, (e = .returned (.tuple #[v, .int .i64 (leftA l net prot l.length), .int .i64 0]) ∧ OwnTk w' w.heap.size v l.length (tkL l net prot l.length) ∧ Bk w' p (tookL l (tkL l net prot l.length))) ∧ w.grownBy w' (some p) := by
 have hlen := hg.len
 obtain ⟨n, hn⟩ : ∃ n, n = l.length := ⟨_, rfl⟩
 have KL := blist_c p l w hb (by omega)
 unfold GivesOd at KL
 rw [← hn] at KL hlen ht ⊢
 have HKL := hid KL
 have KS := hid (fun A c W hs => serve_yes net prot A n c l W hs (od_of hg hn) (by omega) h)
 have HBK := hid hb
 have hplt := hb.lt
 have KT : Hid (∀ A c W, Bk W p l → TkSl W A n (tkL l net prot n) → Calls prog 150 #[.pointer (some ⟨p, 0, none⟩), .slice A n c] W fun e w' => e = .returned (.int .i64 0) ∧ Bk w' p (tookL l (tkL l net prot n)) ∧ W.grownBy w' (some p)) := fun A c W hk hs => by
  refine (btook_c p l A n c _ W hk (by omega) hs).mono ?_
  unfold TookR
  rw [ht]
  exact fun e w' h => h
 clear KL h ht hn hb
 go_enter func108, ntmps108
 go_wp2_with fail
 refine HKL.out.mono ?_
 rintro e w1 ⟨⟨v1, rfl, ho⟩, hb1⟩
 obtain ⟨A1, c1, rfl⟩ := oL9 ho.2
 have HS := hid (own_at ho)
 have HB1 := hid hb1
 have hs1 := hb1.size
 clear ho hb1
 go_wp2_with fail
 refine (KS.out A1 c1 _ HS.out).mono ?_
 rintro e w2 ⟨v2, ⟨rfl, ho2⟩, hb2⟩
 obtain ⟨A2, c2, rfl⟩ := oL9 ho2.2
 obtain ⟨_, _, he, hsl⟩ := ho2.sl
 injection he with e1 _ e2
 subst e1; subst e2
 have HB2 := hid (bT HB1.out hb2)
 have HSL := hid hsl
 have HO2 := hid ho2
 have HK2 := hid (HBK.out.t HB2.out)
 clear hb2 ho2 hsl
 go_wp2_with fail
 refine (KT.out A2 c2 _ HK2.out HSL.out).mono ?_
 rintro e w3 ⟨rfl, hk3, hg3⟩
 have HG := hid ((grown_of_below HB2.out (some p)).trans hg3)
 have HK := hid hk3
 have HO3 : Hid (OwnTk w3 w.heap.size (.slice A2 n c2) n (tkL l net prot n)) := by
  obtain ⟨u, h1, h2⟩ := HK2.out
  have ho := HO2.out
  exact ⟨ho.1, oM9 (ho.2.kept hg3 (Or.inr fun he => obz ho.2 h1 (by decide) he.symm)) hs1⟩
 clear hk3 hg3 hplt
 go_wp2_with fail
 go_ret3
 exact ⟨_, ⟨rfl, HO3.out, HK.out⟩, HG.out⟩
theorem kA {X : Nat → Prop} {w0 w : World} (h : Kp w0.heap.size X w0 w) (o : Obj) : Kp w0.heap.size X w0 (w.alloc o) := h.alloc (Nat.le_refl _) o
theorem kT {X : Nat → Prop} {w0 w w' : World} (h : Kp w0.heap.size X w0 w) (hb : Below w.heap.size w w') : Kp w0.heap.size X w0 w' := h.trans (Kp.below hb h.size)
theorem kD {X : Nat → Prop} {w0 w : World} (h : Kp w0.heap.size X w0 w) (n : Nat) : Kp w0.heap.size X w0 (w.drewN n) := ⟨h.os, h.tape, h.output, h.size, h.block⟩
theorem kS {X : Nat → Prop} {w0 w : World} (h : Kp w0.heap.size X w0 w) {p : Addr} (hp : w0.heap.size ≤ p.block ∨ X p.block) (v : Value) : Kp w0.heap.size X w0 (w.setCell p v) := h.set hp v
theorem kSg {X : Nat → Prop} {w0 w : World} {g : Nat} (h : Kp w0.heap.size X w0 w) (hg : w0.heap.size ≤ g ∨ X g) (j : Nat) (v : Value) : Kp w0.heap.size X w0 (w.setCell ⟨g, j, none⟩ v) := kS h (p := ⟨g, j, none⟩) hg v
theorem kK {X : Nat → Prop} {w0 w w' : World} (h : Kp w0.heap.size X w0 w) {Y : Nat → Prop} (hk : Kp w.heap.size Y w w') (hXY : ∀ g, g < w0.heap.size → Y g → X g) : Kp w0.heap.size X w0 w' :=
 ⟨hk.os.trans h.os, hk.tape.trans h.tape, hk.output.trans h.output, Nat.le_trans h.size hk.size, fun k hk' hx => (hk.block k (Nat.lt_of_lt_of_le hk' h.size) (fun hy => hx (hXY k hk' hy))).trans (h.block k hk' hx)⟩
structure FrK (X : Nat → Prop) (w0 w : World) (l : List (Nat × TypeId × Array Value)) : Prop where
 bl : Kp w0.heap.size X w0 w
 at' : ∀ (i : Nat) (x : Nat × TypeId × Array Value), l[i]? = some x → w0.heap.size ≤ x.1 ∧ Blk w x.1 x.2.1 x.2.2
 ne : l.Pairwise (fun a b => a.1 < b.1)
theorem FrK.start (X : Nat → Prop) (w : World) : FrK X w w [] := ⟨Kp.refl _ _ _, fun i x h => by simp at h, List.Pairwise.nil⟩
theorem FrK.b {X : Nat → Prop} {w0 w : World} {l : List (Nat × TypeId × Array Value)} (h : FrK X w0 w l) (i : Nat) {g : Nat} {T : TypeId} {cs : Array Value} (hi : l[i]? = some (g, T, cs)) : Blk w g T cs := (h.at' i _ hi).2
theorem FrK.ge {X : Nat → Prop} {w0 w : World} {l : List (Nat × TypeId × Array Value)} (h : FrK X w0 w l) (i : Nat) {g : Nat} {T : TypeId} {cs : Array Value} (hi : l[i]? = some (g, T, cs)) : w0.heap.size ≤ g := (h.at' i _ hi).1
theorem FrK.lt {X : Nat → Prop} {w0 w : World} {l : List (Nat × TypeId × Array Value)} (h : FrK X w0 w l) (i : Nat) {g : Nat} {T : TypeId} {cs : Array Value} (hi : l[i]? = some (g, T, cs)) : g < w.heap.size := (h.b i hi).lt
theorem FrK.al {X : Nat → Prop} {w0 w : World} {l : List (Nat × TypeId × Array Value)} (h : FrK X w0 w l) (T : TypeId) (cs : Array Value) : FrK X w0 (w.alloc (.cells cs T)) (l ++ [(w.heap.size, T, cs)]) := by
 refine ⟨kA h.bl _, fun i x hi => ?_, ?_⟩
 ·
  by_cases hl : i < l.length
  ·
   rw [List.getElem?_append_left hl] at hi
   have := h.at' i x hi
   exact ⟨this.1, this.2.alloc _⟩
  ·
   rw [List.getElem?_append_right (by omega)] at hi
   have h0 : i - l.length = 0 := by
    rcases Nat.eq_zero_or_pos (i - l.length) with h1 | h1
    ·
     exact h1
    ·
     rw [List.getElem?_eq_none (by simp; omega)] at hi; cases hi
   rw [h0] at hi
   simp only [List.getElem?_cons_zero, Option.some.injEq] at hi
   subst hi
   exact ⟨h.bl.size, Blk.mk w T cs⟩
 ·
  refine List.pairwise_append.2 ⟨h.ne, List.pairwise_singleton _ _, fun a ha b hb => ?_⟩
  rw [List.mem_singleton] at hb
  subst hb
  obtain ⟨i, hi⟩ := List.getElem?_of_mem ha
  exact (h.at' i a hi).2.lt
theorem FrK.ca {X : Nat → Prop} {w0 w w' : World} {l : List (Nat × TypeId × Array Value)} (h : FrK X w0 w l) (hb : Below w.heap.size w w') : FrK X w0 w' l :=
 ⟨kT h.bl hb, fun i x hi => ⟨(h.at' i x hi).1, (h.at' i x hi).2.t hb⟩, h.ne⟩
theorem FrK.dr {X : Nat → Prop} {w0 w : World} {l : List (Nat × TypeId × Array Value)} (h : FrK X w0 w l) : FrK X w0 w.drew l :=
 ⟨kD h.bl 1, fun i x hi => ⟨(h.at' i x hi).1, (h.at' i x hi).2.drewN 1⟩, h.ne⟩
theorem FrK.drN {X : Nat → Prop} {w0 w : World} {l : List (Nat × TypeId × Array Value)} (h : FrK X w0 w l) (n : Nat) : FrK X w0 (w.drewN n) l :=
 ⟨kD h.bl n, fun i x hi => ⟨(h.at' i x hi).1, (h.at' i x hi).2.drewN n⟩, h.ne⟩
theorem FrK.cut {X : Nat → Prop} {w0 w : World} {l : List (Nat × TypeId × Array Value)} (h : FrK X w0 w l) (k : Nat) : FrK X w0 w (l.take k) :=
 ⟨h.bl, fun i x hi => h.at' i x (by
  rw [List.getElem?_take] at hi
  split at hi
  ·
   exact hi
  ·
   cases hi), h.ne.sublist (List.take_sublist k l)⟩
theorem FrK.st {X : Nat → Prop} {w0 w : World} {l : List (Nat × TypeId × Array Value)} (h : FrK X w0 w l) (i : Nat) {g : Nat} {T : TypeId} {cs : Array Value} (hi : l[i]? = some (g, T, cs)) (j : Nat) (v : Value) : FrK X w0 (w.setCell ⟨g, j, none⟩ v) (l.set i (g, T, cs.setIfInBounds j v)) := by
 have hil : i < l.length := by
  rcases Nat.lt_or_ge i l.length with h1 | h1
  ·
   exact h1
  ·
   rw [List.getElem?_eq_none h1] at hi; cases hi
 have hgi : l[i] = (g, T, cs) := by rw [List.getElem?_eq_getElem hil] at hi; exact Option.some.inj hi
 refine ⟨kS h.bl (p := ⟨g, j, none⟩) (Or.inl (h.ge i hi)) v, fun k x hk => ?_, ?_⟩
 ·
  rw [List.getElem?_set] at hk
  by_cases hik : i = k
  ·
   subst hik
   rw [if_pos rfl, if_pos hil] at hk
   injection hk with hk
   subst hk
   exact ⟨h.ge i hi, (h.b i hi).setJ j v⟩
  ·
   rw [if_neg hik] at hk
   have hx := h.at' k x hk
   refine ⟨hx.1, hx.2.setO ?_ j v⟩
   have hkl : k < l.length := by
    rcases Nat.lt_or_ge k l.length with h1 | h1
    ·
     exact h1
    ·
     rw [List.getElem?_eq_none h1] at hk; cases hk
   have hgk : l[k] = x := by rw [List.getElem?_eq_getElem hkl] at hk; exact Option.some.inj hk
   have hp := List.pairwise_iff_getElem.1 h.ne
   rcases Nat.lt_or_gt_of_ne hik with h1 | h1
   ·
    have := hp i k hil hkl h1
    rw [hgi, hgk] at this
    dsimp only at this
    omega
   ·
    have := hp k i hkl hil h1
    rw [hgi, hgk] at this
    dsimp only at this
    omega
 ·
  have e : (l.set i (g, T, cs.setIfInBounds j v)).map (·.1) = l.map (·.1) := by
   rw [List.map_set]
   apply List.ext_getElem
   ·
    simp
   ·
    intro n h1 h2
    rw [List.getElem_set]
    by_cases hn : i = n
    ·
     subst hn; rw [if_pos rfl, List.getElem_map, hgi]
    ·
     rw [if_neg hn]
  have hp : (l.map (·.1)).Pairwise (· < ·) := List.pairwise_map.2 h.ne
  rw [← e] at hp
  exact List.pairwise_map.1 hp
theorem FrK.upd {X : Nat → Prop} {w0 w w' : World} {l : List (Nat × TypeId × Array Value)} (h : FrK X w0 w l) (i : Nat) {g : Nat} {T : TypeId} {cs cs' : Array Value} (hi : l[i]? = some (g, T, cs)) (hg : w.grownBy w' (some g)) (hbl : Kp w0.heap.size X w0 w') (hk : Blk w' g T cs') : FrK X w0 w' (l.set i (g, T, cs')) := by
 have hil : i < l.length := by
  rcases Nat.lt_or_ge i l.length with h1 | h1
  ·
   exact h1
  ·
   rw [List.getElem?_eq_none h1] at hi; cases hi
 have hgi : l[i] = (g, T, cs) := by rw [List.getElem?_eq_getElem hil] at hi; exact Option.some.inj hi
 refine ⟨hbl, fun k x hk' => ?_, ?_⟩
 ·
  rw [List.getElem?_set] at hk'
  by_cases hik : i = k
  ·
   subst hik
   rw [if_pos rfl, if_pos hil] at hk'
   injection hk' with hk'
   subst hk'
   exact ⟨h.ge i hi, hk⟩
  ·
   rw [if_neg hik] at hk'
   have hx := h.at' k x hk'
   have hkl : k < l.length := by
    rcases Nat.lt_or_ge k l.length with h1 | h1
    ·
     exact h1
    ·
     rw [List.getElem?_eq_none h1] at hk'; cases hk'
   have hgk : l[k] = x := by rw [List.getElem?_eq_getElem hkl] at hk'; exact Option.some.inj hk'
   have hp := List.pairwise_iff_getElem.1 h.ne
   refine ⟨hx.1, hx.2.grown hg ?_⟩
   intro he
   injection he with he
   rcases Nat.lt_or_gt_of_ne hik with h1 | h1
   ·
    have := hp i k hil hkl h1
    rw [hgi, hgk] at this
    dsimp only at this
    omega
   ·
    have := hp k i hkl hil h1
    rw [hgi, hgk] at this
    dsimp only at this
    omega
 ·
  have e : (l.set i (g, T, cs')).map (·.1) = l.map (·.1) := by
   rw [List.map_set]
   apply List.ext_getElem
   ·
    simp
   ·
    intro n h1 h2
    rw [List.getElem_set]
    by_cases hn : i = n
    ·
     subst hn; rw [if_pos rfl, List.getElem_map, hgi]
    ·
     rw [if_neg hn]
  have hp : (l.map (·.1)).Pairwise (· < ·) := List.pairwise_map.2 h.ne
  rw [← e] at hp
  exact List.pairwise_map.1 hp
theorem Fr.k {w0 w : World} {l : List (Nat × TypeId × Array Value)} (h : Fr w0 w l) (X : Nat → Prop) : FrK X w0 w l := ⟨Kp.below h.bl (Nat.le_refl _), h.at', h.ne⟩
theorem FrK.mut {X : Nat → Prop} {w0 w : World} {l : List (Nat × TypeId × Array Value)} (h : FrK X w0 w l) {g : Nat} (hg : g < w0.heap.size) (hX : X g) (j : Nat) (v : Value) : FrK X w0 (w.setCell ⟨g, j, none⟩ v) l :=
 ⟨kSg h.bl (Or.inr hX) j v, fun i x hi => ⟨(h.at' i x hi).1, (h.at' i x hi).2.setO (by have := (h.at' i x hi).1; omega) j v⟩, h.ne⟩
theorem FrK.act {X Y : Nat → Prop} {w0 w w' : World} {l : List (Nat × TypeId × Array Value)} (h : FrK X w0 w l) (hk : Kp w.heap.size Y w w') (hXY : ∀ g, g < w0.heap.size → Y g → X g) (hY : ∀ x ∈ l, ¬ Y x.1) : FrK X w0 w' l :=
 ⟨kK h.bl hk hXY, fun i x hi => ⟨(h.at' i x hi).1, (h.at' i x hi).2.kp hk (h.at' i x hi).2.lt (hY x (List.mem_of_getElem? hi))⟩, h.ne⟩
def setL (w : World) (g : Nat) : Nat → List Value → World
 | _, [] => w
 | j, v :: vs => setL (w.setCell ⟨g, j, none⟩ v) g (j + 1) vs
theorem sg9 (g : Nat) : ∀ (vs : List Value) (w : World) (j : Nat), w.grownBy (setL w g j vs) (some g)
 | [], w, _ => World.grownBy.refl w _
 | v :: vs, w, j => (gJ9 w g j v).trans (sg9 g vs _ (j + 1))
theorem setL_own {base size n g : Nat} {e t : TypeId} {cs : Array Value} {v : Value} {xs : List Value} {w : World} (h : w.ownsRow base e size v n xs) (hk : Blk w g t cs) (hne : e ≠ t) (vs : List Value) (j : Nat) : (setL w g j vs).ownsRow base e size v n xs :=
 h.kept (sg9 g vs w j) (Or.inr (obz h hk hne).symm)
theorem setL_other {g g' : Nat} {t : TypeId} {cs : Array Value} {w : World} (h : Blk w g' t cs) (hne : g' ≠ g) (vs : List Value) (j : Nat) : Blk (setL w g j vs) g' t cs := h.grown (sg9 g vs w j) (by simpa using hne)
theorem setL_below {g : Nat} {w0 w : World} (h : Below w0.heap.size w0 w) (hg : w0.heap.size ≤ g) (vs : List Value) (j : Nat) : Below w0.heap.size w0 (setL w g j vs) := h.grown (sg9 g vs w j) h.size (fun k hk => by injection hk with hk; omega)
theorem setL_kp {g : Nat} {X : Nat → Prop} {w0 w : World} (h : Kp w0.heap.size X w0 w) (hg : w0.heap.size ≤ g ∨ X g) (vs : List Value) (j : Nat) : Kp w0.heap.size X w0 (setL w g j vs) :=
 h.trans (Kp.grown (sg9 g vs w j) h.size (fun k hk => by injection hk with hk; subst hk; exact hg))
theorem FrK.mutL {X : Nat → Prop} {w0 w : World} {l : List (Nat × TypeId × Array Value)} (h : FrK X w0 w l) {g : Nat} (hg : g < w0.heap.size) (hX : X g) (j : Nat) (vs : List Value) : FrK X w0 (setL w g j vs) l :=
 ⟨setL_kp h.bl (Or.inr hX) vs j, fun i x hi => ⟨(h.at' i x hi).1, setL_other (h.at' i x hi).2 (by have := (h.at' i x hi).1; omega) vs j⟩, h.ne⟩
theorem own_cap {w : World} {base size n c : Nat} {e : TypeId} {A : Option Addr} {xs : List Value} (h : w.ownsRow base e size (.slice A n c) n xs) : n ≤ c := by
 rcases h.2 with ⟨_, h2⟩ | ⟨g, cap, cur, h1, _, _, h2, _⟩
 ·
  omega
 ·
  injection h1 with _ _ h3
  omega
theorem Blk.af3 {w : World} {g : Nat} {t : TypeId} {a0 a1 a2 : Value} (x : Blk w g t #[a0, a1, a2]) : w.cell? ⟨g, 0, none⟩ = some a0 ∧ w.cell? ⟨g, 1, none⟩ = some a1 ∧ w.cell? ⟨g, 2, none⟩ = some a2 ∧ w.frozen? ⟨g, 0, none⟩ = false ∧ w.frozen? ⟨g, 1, none⟩ = false ∧ w.frozen? ⟨g, 2, none⟩ = false :=
 ⟨x.cell 0, x.cell 1, x.cell 2, x.free 0, x.free 1, x.free 2⟩
theorem Blk.af6 {w : World} {g : Nat} {t : TypeId} {a0 a1 a2 a3 a4 a5 : Value} (x : Blk w g t #[a0, a1, a2, a3, a4, a5]) : w.cell? ⟨g, 0, none⟩ = some a0 ∧ w.cell? ⟨g, 1, none⟩ = some a1 ∧ w.cell? ⟨g, 2, none⟩ = some a2 ∧ w.cell? ⟨g, 3, none⟩ = some a3 ∧ w.cell? ⟨g, 4, none⟩ = some a4 ∧ w.cell? ⟨g, 5, none⟩ = some a5 ∧ w.frozen? ⟨g, 0, none⟩ = false ∧ w.frozen? ⟨g, 1, none⟩ = false ∧ w.frozen? ⟨g, 2, none⟩ = false ∧ w.frozen? ⟨g, 3, none⟩ = false ∧ w.frozen? ⟨g, 4, none⟩ = false ∧ w.frozen? ⟨g, 5, none⟩ = false :=
 ⟨x.cell 0, x.cell 1, x.cell 2, x.cell 3, x.cell 4, x.cell 5, x.free 0, x.free 1, x.free 2, x.free 3, x.free 4, x.free 5⟩
theorem Blk.af9 {w : World} {g : Nat} {t : TypeId} {a0 a1 a2 a3 a4 a5 a6 a7 a8 : Value} (x : Blk w g t #[a0, a1, a2, a3, a4, a5, a6, a7, a8]) : w.cell? ⟨g, 0, none⟩ = some a0 ∧ w.cell? ⟨g, 1, none⟩ = some a1 ∧ w.cell? ⟨g, 2, none⟩ = some a2 ∧ w.cell? ⟨g, 3, none⟩ = some a3 ∧ w.cell? ⟨g, 4, none⟩ = some a4 ∧ w.cell? ⟨g, 5, none⟩ = some a5 ∧ w.cell? ⟨g, 6, none⟩ = some a6 ∧ w.cell? ⟨g, 7, none⟩ = some a7 ∧ w.cell? ⟨g, 8, none⟩ = some a8 ∧ w.frozen? ⟨g, 0, none⟩ = false ∧ w.frozen? ⟨g, 1, none⟩ = false ∧ w.frozen? ⟨g, 2, none⟩ = false ∧ w.frozen? ⟨g, 3, none⟩ = false ∧ w.frozen? ⟨g, 4, none⟩ = false ∧ w.frozen? ⟨g, 5, none⟩ = false ∧ w.frozen? ⟨g, 6, none⟩ = false ∧ w.frozen? ⟨g, 7, none⟩ = false ∧ w.frozen? ⟨g, 8, none⟩ = false :=
 ⟨x.cell 0, x.cell 1, x.cell 2, x.cell 3, x.cell 4, x.cell 5, x.cell 6, x.cell 7, x.cell 8, x.free 0, x.free 1, x.free 2, x.free 3, x.free 4, x.free 5, x.free 6, x.free 7, x.free 8⟩
theorem Blk.af10 {w : World} {g : Nat} {t : TypeId} {a0 a1 a2 a3 a4 a5 a6 a7 a8 a9 : Value} (x : Blk w g t #[a0, a1, a2, a3, a4, a5, a6, a7, a8, a9]) : w.cell? ⟨g, 0, none⟩ = some a0 ∧ w.cell? ⟨g, 1, none⟩ = some a1 ∧ w.cell? ⟨g, 2, none⟩ = some a2 ∧ w.cell? ⟨g, 3, none⟩ = some a3 ∧ w.cell? ⟨g, 4, none⟩ = some a4 ∧ w.cell? ⟨g, 5, none⟩ = some a5 ∧ w.cell? ⟨g, 6, none⟩ = some a6 ∧ w.cell? ⟨g, 7, none⟩ = some a7 ∧ w.cell? ⟨g, 8, none⟩ = some a8 ∧ w.cell? ⟨g, 9, none⟩ = some a9 ∧ w.frozen? ⟨g, 0, none⟩ = false ∧ w.frozen? ⟨g, 1, none⟩ = false ∧ w.frozen? ⟨g, 2, none⟩ = false ∧ w.frozen? ⟨g, 3, none⟩ = false ∧ w.frozen? ⟨g, 4, none⟩ = false ∧ w.frozen? ⟨g, 5, none⟩ = false ∧ w.frozen? ⟨g, 6, none⟩ = false ∧ w.frozen? ⟨g, 7, none⟩ = false ∧ w.frozen? ⟨g, 8, none⟩ = false ∧ w.frozen? ⟨g, 9, none⟩ = false :=
 ⟨x.cell 0, x.cell 1, x.cell 2, x.cell 3, x.cell 4, x.cell 5, x.cell 6, x.cell 7, x.cell 8, x.cell 9, x.free 0, x.free 1, x.free 2, x.free 3, x.free 4, x.free 5, x.free 6, x.free 7, x.free 8, x.free 9⟩
--<<put
theorem Blk.put6 {W : World} {g : Nat} {t : TypeId} {a0 a1 a2 a3 a4 a5 : Value} (hk : Blk W g t #[a0, a1, a2, a3, a4, a5]) (v0 v1 v2 v3 v4 v5 : Value) : Blk (((((((W).setCell ⟨g, 0, none⟩ v0).setCell ⟨g, 1, none⟩ v1).setCell ⟨g, 2, none⟩ v2).setCell ⟨g, 3, none⟩ v3).setCell ⟨g, 4, none⟩ v4).setCell ⟨g, 5, none⟩ v5) g t #[v0, v1, v2, v3, v4, v5] := by
 have h0 : Blk _ g t #[v0, a1, a2, a3, a4, a5] := hk.setJ 0 v0
 have h1 : Blk _ g t #[v0, v1, a2, a3, a4, a5] := h0.setJ 1 v1
 have h2 : Blk _ g t #[v0, v1, v2, a3, a4, a5] := h1.setJ 2 v2
 have h3 : Blk _ g t #[v0, v1, v2, v3, a4, a5] := h2.setJ 3 v3
 have h4 : Blk _ g t #[v0, v1, v2, v3, v4, a5] := h3.setJ 4 v4
 have h5 : Blk _ g t #[v0, v1, v2, v3, v4, v5] := h4.setJ 5 v5
 exact h5
theorem own_put6 {W : World} {base size n g : Nat} {e t : TypeId} {cs : Array Value} {v : Value} {xs : List Value} (h : W.ownsRow base e size v n xs) (hk : Blk W g t cs) (hne : e ≠ t) (v0 v1 v2 v3 v4 v5 : Value) : (((((((W).setCell ⟨g, 0, none⟩ v0).setCell ⟨g, 1, none⟩ v1).setCell ⟨g, 2, none⟩ v2).setCell ⟨g, 3, none⟩ v3).setCell ⟨g, 4, none⟩ v4).setCell ⟨g, 5, none⟩ v5).ownsRow base e size v n xs := setL_own h hk hne [v0, v1, v2, v3, v4, v5] 0
theorem b6z {w0 W : World} {g : Nat} (h : Below w0.heap.size w0 W) (hg : w0.heap.size ≤ g) (v0 v1 v2 v3 v4 v5 : Value) : Below w0.heap.size w0 (((((((W).setCell ⟨g, 0, none⟩ v0).setCell ⟨g, 1, none⟩ v1).setCell ⟨g, 2, none⟩ v2).setCell ⟨g, 3, none⟩ v3).setCell ⟨g, 4, none⟩ v4).setCell ⟨g, 5, none⟩ v5) := setL_below h hg [v0, v1, v2, v3, v4, v5] 0
theorem kp_put6 {X : Nat → Prop} {w0 W : World} {g : Nat} (h : Kp w0.heap.size X w0 W) (hg : w0.heap.size ≤ g ∨ X g) (v0 v1 v2 v3 v4 v5 : Value) : Kp w0.heap.size X w0 (((((((W).setCell ⟨g, 0, none⟩ v0).setCell ⟨g, 1, none⟩ v1).setCell ⟨g, 2, none⟩ v2).setCell ⟨g, 3, none⟩ v3).setCell ⟨g, 4, none⟩ v4).setCell ⟨g, 5, none⟩ v5) := setL_kp h hg [v0, v1, v2, v3, v4, v5] 0
theorem Fr.put6 {w0 W : World} {l : List (Nat × TypeId × Array Value)} (x : Fr w0 W l) (i : Nat) {g : Nat} {t : TypeId} {a0 a1 a2 a3 a4 a5 : Value} (hi : l[i]? = some (g, t, #[a0, a1, a2, a3, a4, a5])) (v0 v1 v2 v3 v4 v5 : Value) : Fr w0 (((((((W).setCell ⟨g, 0, none⟩ v0).setCell ⟨g, 1, none⟩ v1).setCell ⟨g, 2, none⟩ v2).setCell ⟨g, 3, none⟩ v3).setCell ⟨g, 4, none⟩ v4).setCell ⟨g, 5, none⟩ v5) (l.set i (g, t, #[v0, v1, v2, v3, v4, v5])) :=
 x.upd i hi (sg9 g [v0, v1, v2, v3, v4, v5] W 0) (b6z x.bl (x.ge i hi) v0 v1 v2 v3 v4 v5) ((x.b i hi).put6 v0 v1 v2 v3 v4 v5)
theorem FrK.put6 {X : Nat → Prop} {w0 W : World} {l : List (Nat × TypeId × Array Value)} (x : FrK X w0 W l) (i : Nat) {g : Nat} {t : TypeId} {a0 a1 a2 a3 a4 a5 : Value} (hi : l[i]? = some (g, t, #[a0, a1, a2, a3, a4, a5])) (v0 v1 v2 v3 v4 v5 : Value) : FrK X w0 (((((((W).setCell ⟨g, 0, none⟩ v0).setCell ⟨g, 1, none⟩ v1).setCell ⟨g, 2, none⟩ v2).setCell ⟨g, 3, none⟩ v3).setCell ⟨g, 4, none⟩ v4).setCell ⟨g, 5, none⟩ v5) (l.set i (g, t, #[v0, v1, v2, v3, v4, v5])) :=
 x.upd i hi (sg9 g [v0, v1, v2, v3, v4, v5] W 0) (kp_put6 x.bl (Or.inl (x.ge i hi)) v0 v1 v2 v3 v4 v5) ((x.b i hi).put6 v0 v1 v2 v3 v4 v5)
theorem Blk.put9 {W : World} {g : Nat} {t : TypeId} {a0 a1 a2 a3 a4 a5 a6 a7 a8 : Value} (hk : Blk W g t #[a0, a1, a2, a3, a4, a5, a6, a7, a8]) (v0 v1 v2 v3 v4 v5 v6 v7 v8 : Value) : Blk ((((((((((W).setCell ⟨g, 0, none⟩ v0).setCell ⟨g, 1, none⟩ v1).setCell ⟨g, 2, none⟩ v2).setCell ⟨g, 3, none⟩ v3).setCell ⟨g, 4, none⟩ v4).setCell ⟨g, 5, none⟩ v5).setCell ⟨g, 6, none⟩ v6).setCell ⟨g, 7, none⟩ v7).setCell ⟨g, 8, none⟩ v8) g t #[v0, v1, v2, v3, v4, v5, v6, v7, v8] := by
 have h0 : Blk _ g t #[v0, a1, a2, a3, a4, a5, a6, a7, a8] := hk.setJ 0 v0
 have h1 : Blk _ g t #[v0, v1, a2, a3, a4, a5, a6, a7, a8] := h0.setJ 1 v1
 have h2 : Blk _ g t #[v0, v1, v2, a3, a4, a5, a6, a7, a8] := h1.setJ 2 v2
 have h3 : Blk _ g t #[v0, v1, v2, v3, a4, a5, a6, a7, a8] := h2.setJ 3 v3
 have h4 : Blk _ g t #[v0, v1, v2, v3, v4, a5, a6, a7, a8] := h3.setJ 4 v4
 have h5 : Blk _ g t #[v0, v1, v2, v3, v4, v5, a6, a7, a8] := h4.setJ 5 v5
 have h6 : Blk _ g t #[v0, v1, v2, v3, v4, v5, v6, a7, a8] := h5.setJ 6 v6
 have h7 : Blk _ g t #[v0, v1, v2, v3, v4, v5, v6, v7, a8] := h6.setJ 7 v7
 have h8 : Blk _ g t #[v0, v1, v2, v3, v4, v5, v6, v7, v8] := h7.setJ 8 v8
 exact h8
theorem own_put9 {W : World} {base size n g : Nat} {e t : TypeId} {cs : Array Value} {v : Value} {xs : List Value} (h : W.ownsRow base e size v n xs) (hk : Blk W g t cs) (hne : e ≠ t) (v0 v1 v2 v3 v4 v5 v6 v7 v8 : Value) : ((((((((((W).setCell ⟨g, 0, none⟩ v0).setCell ⟨g, 1, none⟩ v1).setCell ⟨g, 2, none⟩ v2).setCell ⟨g, 3, none⟩ v3).setCell ⟨g, 4, none⟩ v4).setCell ⟨g, 5, none⟩ v5).setCell ⟨g, 6, none⟩ v6).setCell ⟨g, 7, none⟩ v7).setCell ⟨g, 8, none⟩ v8).ownsRow base e size v n xs := setL_own h hk hne [v0, v1, v2, v3, v4, v5, v6, v7, v8] 0
theorem below_put9 {w0 W : World} {g : Nat} (h : Below w0.heap.size w0 W) (hg : w0.heap.size ≤ g) (v0 v1 v2 v3 v4 v5 v6 v7 v8 : Value) : Below w0.heap.size w0 ((((((((((W).setCell ⟨g, 0, none⟩ v0).setCell ⟨g, 1, none⟩ v1).setCell ⟨g, 2, none⟩ v2).setCell ⟨g, 3, none⟩ v3).setCell ⟨g, 4, none⟩ v4).setCell ⟨g, 5, none⟩ v5).setCell ⟨g, 6, none⟩ v6).setCell ⟨g, 7, none⟩ v7).setCell ⟨g, 8, none⟩ v8) := setL_below h hg [v0, v1, v2, v3, v4, v5, v6, v7, v8] 0
theorem kp_put9 {X : Nat → Prop} {w0 W : World} {g : Nat} (h : Kp w0.heap.size X w0 W) (hg : w0.heap.size ≤ g ∨ X g) (v0 v1 v2 v3 v4 v5 v6 v7 v8 : Value) : Kp w0.heap.size X w0 ((((((((((W).setCell ⟨g, 0, none⟩ v0).setCell ⟨g, 1, none⟩ v1).setCell ⟨g, 2, none⟩ v2).setCell ⟨g, 3, none⟩ v3).setCell ⟨g, 4, none⟩ v4).setCell ⟨g, 5, none⟩ v5).setCell ⟨g, 6, none⟩ v6).setCell ⟨g, 7, none⟩ v7).setCell ⟨g, 8, none⟩ v8) := setL_kp h hg [v0, v1, v2, v3, v4, v5, v6, v7, v8] 0
theorem Fr.put9 {w0 W : World} {l : List (Nat × TypeId × Array Value)} (x : Fr w0 W l) (i : Nat) {g : Nat} {t : TypeId} {a0 a1 a2 a3 a4 a5 a6 a7 a8 : Value} (hi : l[i]? = some (g, t, #[a0, a1, a2, a3, a4, a5, a6, a7, a8])) (v0 v1 v2 v3 v4 v5 v6 v7 v8 : Value) : Fr w0 ((((((((((W).setCell ⟨g, 0, none⟩ v0).setCell ⟨g, 1, none⟩ v1).setCell ⟨g, 2, none⟩ v2).setCell ⟨g, 3, none⟩ v3).setCell ⟨g, 4, none⟩ v4).setCell ⟨g, 5, none⟩ v5).setCell ⟨g, 6, none⟩ v6).setCell ⟨g, 7, none⟩ v7).setCell ⟨g, 8, none⟩ v8) (l.set i (g, t, #[v0, v1, v2, v3, v4, v5, v6, v7, v8])) :=
 x.upd i hi (sg9 g [v0, v1, v2, v3, v4, v5, v6, v7, v8] W 0) (below_put9 x.bl (x.ge i hi) v0 v1 v2 v3 v4 v5 v6 v7 v8) ((x.b i hi).put9 v0 v1 v2 v3 v4 v5 v6 v7 v8)
theorem FrK.put9 {X : Nat → Prop} {w0 W : World} {l : List (Nat × TypeId × Array Value)} (x : FrK X w0 W l) (i : Nat) {g : Nat} {t : TypeId} {a0 a1 a2 a3 a4 a5 a6 a7 a8 : Value} (hi : l[i]? = some (g, t, #[a0, a1, a2, a3, a4, a5, a6, a7, a8])) (v0 v1 v2 v3 v4 v5 v6 v7 v8 : Value) : FrK X w0 ((((((((((W).setCell ⟨g, 0, none⟩ v0).setCell ⟨g, 1, none⟩ v1).setCell ⟨g, 2, none⟩ v2).setCell ⟨g, 3, none⟩ v3).setCell ⟨g, 4, none⟩ v4).setCell ⟨g, 5, none⟩ v5).setCell ⟨g, 6, none⟩ v6).setCell ⟨g, 7, none⟩ v7).setCell ⟨g, 8, none⟩ v8) (l.set i (g, t, #[v0, v1, v2, v3, v4, v5, v6, v7, v8])) :=
 x.upd i hi (sg9 g [v0, v1, v2, v3, v4, v5, v6, v7, v8] W 0) (kp_put9 x.bl (Or.inl (x.ge i hi)) v0 v1 v2 v3 v4 v5 v6 v7 v8) ((x.b i hi).put9 v0 v1 v2 v3 v4 v5 v6 v7 v8)
theorem Blk.put10 {W : World} {g : Nat} {t : TypeId} {a0 a1 a2 a3 a4 a5 a6 a7 a8 a9 : Value} (hk : Blk W g t #[a0, a1, a2, a3, a4, a5, a6, a7, a8, a9]) (v0 v1 v2 v3 v4 v5 v6 v7 v8 v9 : Value) : Blk (((((((((((W).setCell ⟨g, 0, none⟩ v0).setCell ⟨g, 1, none⟩ v1).setCell ⟨g, 2, none⟩ v2).setCell ⟨g, 3, none⟩ v3).setCell ⟨g, 4, none⟩ v4).setCell ⟨g, 5, none⟩ v5).setCell ⟨g, 6, none⟩ v6).setCell ⟨g, 7, none⟩ v7).setCell ⟨g, 8, none⟩ v8).setCell ⟨g, 9, none⟩ v9) g t #[v0, v1, v2, v3, v4, v5, v6, v7, v8, v9] := by
 have h0 : Blk _ g t #[v0, a1, a2, a3, a4, a5, a6, a7, a8, a9] := hk.setJ 0 v0
 have h1 : Blk _ g t #[v0, v1, a2, a3, a4, a5, a6, a7, a8, a9] := h0.setJ 1 v1
 have h2 : Blk _ g t #[v0, v1, v2, a3, a4, a5, a6, a7, a8, a9] := h1.setJ 2 v2
 have h3 : Blk _ g t #[v0, v1, v2, v3, a4, a5, a6, a7, a8, a9] := h2.setJ 3 v3
 have h4 : Blk _ g t #[v0, v1, v2, v3, v4, a5, a6, a7, a8, a9] := h3.setJ 4 v4
 have h5 : Blk _ g t #[v0, v1, v2, v3, v4, v5, a6, a7, a8, a9] := h4.setJ 5 v5
 have h6 : Blk _ g t #[v0, v1, v2, v3, v4, v5, v6, a7, a8, a9] := h5.setJ 6 v6
 have h7 : Blk _ g t #[v0, v1, v2, v3, v4, v5, v6, v7, a8, a9] := h6.setJ 7 v7
 have h8 : Blk _ g t #[v0, v1, v2, v3, v4, v5, v6, v7, v8, a9] := h7.setJ 8 v8
 have h9 : Blk _ g t #[v0, v1, v2, v3, v4, v5, v6, v7, v8, v9] := h8.setJ 9 v9
 exact h9
theorem bp9 {w0 W : World} {g : Nat} (h : Below w0.heap.size w0 W) (hg : w0.heap.size ≤ g) (v0 v1 v2 v3 v4 v5 v6 v7 v8 v9 : Value) : Below w0.heap.size w0 (((((((((((W).setCell ⟨g, 0, none⟩ v0).setCell ⟨g, 1, none⟩ v1).setCell ⟨g, 2, none⟩ v2).setCell ⟨g, 3, none⟩ v3).setCell ⟨g, 4, none⟩ v4).setCell ⟨g, 5, none⟩ v5).setCell ⟨g, 6, none⟩ v6).setCell ⟨g, 7, none⟩ v7).setCell ⟨g, 8, none⟩ v8).setCell ⟨g, 9, none⟩ v9) := setL_below h hg [v0, v1, v2, v3, v4, v5, v6, v7, v8, v9] 0
theorem kp_put10 {X : Nat → Prop} {w0 W : World} {g : Nat} (h : Kp w0.heap.size X w0 W) (hg : w0.heap.size ≤ g ∨ X g) (v0 v1 v2 v3 v4 v5 v6 v7 v8 v9 : Value) : Kp w0.heap.size X w0 (((((((((((W).setCell ⟨g, 0, none⟩ v0).setCell ⟨g, 1, none⟩ v1).setCell ⟨g, 2, none⟩ v2).setCell ⟨g, 3, none⟩ v3).setCell ⟨g, 4, none⟩ v4).setCell ⟨g, 5, none⟩ v5).setCell ⟨g, 6, none⟩ v6).setCell ⟨g, 7, none⟩ v7).setCell ⟨g, 8, none⟩ v8).setCell ⟨g, 9, none⟩ v9) := setL_kp h hg [v0, v1, v2, v3, v4, v5, v6, v7, v8, v9] 0
theorem Fr.put10 {w0 W : World} {l : List (Nat × TypeId × Array Value)} (x : Fr w0 W l) (i : Nat) {g : Nat} {t : TypeId} {a0 a1 a2 a3 a4 a5 a6 a7 a8 a9 : Value} (hi : l[i]? = some (g, t, #[a0, a1, a2, a3, a4, a5, a6, a7, a8, a9])) (v0 v1 v2 v3 v4 v5 v6 v7 v8 v9 : Value) : Fr w0 (((((((((((W).setCell ⟨g, 0, none⟩ v0).setCell ⟨g, 1, none⟩ v1).setCell ⟨g, 2, none⟩ v2).setCell ⟨g, 3, none⟩ v3).setCell ⟨g, 4, none⟩ v4).setCell ⟨g, 5, none⟩ v5).setCell ⟨g, 6, none⟩ v6).setCell ⟨g, 7, none⟩ v7).setCell ⟨g, 8, none⟩ v8).setCell ⟨g, 9, none⟩ v9) (l.set i (g, t, #[v0, v1, v2, v3, v4, v5, v6, v7, v8, v9])) :=
 x.upd i hi (sg9 g [v0, v1, v2, v3, v4, v5, v6, v7, v8, v9] W 0) (bp9 x.bl (x.ge i hi) v0 v1 v2 v3 v4 v5 v6 v7 v8 v9) ((x.b i hi).put10 v0 v1 v2 v3 v4 v5 v6 v7 v8 v9)
theorem FrK.put10 {X : Nat → Prop} {w0 W : World} {l : List (Nat × TypeId × Array Value)} (x : FrK X w0 W l) (i : Nat) {g : Nat} {t : TypeId} {a0 a1 a2 a3 a4 a5 a6 a7 a8 a9 : Value} (hi : l[i]? = some (g, t, #[a0, a1, a2, a3, a4, a5, a6, a7, a8, a9])) (v0 v1 v2 v3 v4 v5 v6 v7 v8 v9 : Value) : FrK X w0 (((((((((((W).setCell ⟨g, 0, none⟩ v0).setCell ⟨g, 1, none⟩ v1).setCell ⟨g, 2, none⟩ v2).setCell ⟨g, 3, none⟩ v3).setCell ⟨g, 4, none⟩ v4).setCell ⟨g, 5, none⟩ v5).setCell ⟨g, 6, none⟩ v6).setCell ⟨g, 7, none⟩ v7).setCell ⟨g, 8, none⟩ v8).setCell ⟨g, 9, none⟩ v9) (l.set i (g, t, #[v0, v1, v2, v3, v4, v5, v6, v7, v8, v9])) :=
 x.upd i hi (sg9 g [v0, v1, v2, v3, v4, v5, v6, v7, v8, v9] W 0) (kp_put10 x.bl (Or.inl (x.ge i hi)) v0 v1 v2 v3 v4 v5 v6 v7 v8 v9) ((x.b i hi).put10 v0 v1 v2 v3 v4 v5 v6 v7 v8 v9)
--put>>
section
variable {P : Program}
theorem run_app_full (w : World) (t ty e : TypeId) (z : Value) (size bytes : Nat) (ht : P.underlying t = some (.slice e)) (hi : (P.info? e).map (fun i => (i.zero, i.size, i.bytes)) = some (some z, size, bytes))
    (hzs : z.cells.size = size) (hsz : 0 < size) (A : Option Addr) (n : Nat) (xs : List Value) (hs : SrcAt w A n size xs) (cs : Array Value) (hl : cs.size = size) (h1 : ∀ u ∈ cs.toList, u.oneCell' = true)
    (hn : (n + 1) * bytes ≤ 140737488355328) (hn2 : n + 1 ≤ 9223372036854775807) :
    ∃ g' c' w', (Builtin.append_ #[t, t] ty #[.slice A n n, .slice (some ⟨w.heap.size, 0, none⟩) 1 1]).run P (w.alloc (.cells cs e)) = .ok (.slice (some ⟨g', 0, none⟩) (n + 1) c') w' ∧ w'.ownsRow w.heap.size e size (.slice (some ⟨g', 0, none⟩) (n + 1) c') (n + 1) (xs ++ cs.toList) ∧ Below w.heap.size w w' := by
  obtain ⟨i, hi', hz, hsi, hb⟩ := info_parts hi
  subst hsi
  subst hb
  have hc1 : cs.toList.length = 1 * i.size := by simpa using hl
  have hlen : (xs ++ cs.toList).length = (n + 1) * i.size := by rw [List.length_append, hs.1, hc1, Nat.add_mul]
  have hnew : ∀ j u, cs.toList[j]? = some u → (w.alloc (.cells cs e)).cell? ((⟨w.heap.size, 0, none⟩ : Addr).add j) = some u := fun j u hu => by
    rw [add_plain, cell_of_row _ _ _ cs e (0, 0) (heap_alloc_new w _)]
    simpa using hu
  have fin : ∀ (old : Nat), old < n + 1 → (((w.alloc (.cells cs e)).drew.alloc (.cells (xs.toArray ++ cs.toList.toArray ++ Builtin.zeroCells z.cells (grownCap (w.alloc (.cells cs e)) (n + 1) old e - (n + 1))) e)).ownsRow w.heap.size e i.size
        (.slice (some ⟨(w.alloc (.cells cs e)).heap.size, 0, none⟩) (n + 1) (grownCap (w.alloc (.cells cs e)) (n + 1) old e)) (n + 1) (xs ++ cs.toList)) ∧ Below w.heap.size w ((w.alloc (.cells cs e)).drew.alloc (.cells (xs.toArray ++ cs.toList.toArray ++ Builtin.zeroCells z.cells (grownCap (w.alloc (.cells cs e)) (n + 1) old e - (n + 1))) e)) := fun old ho => by
    have hge := grownCap_ge (w.alloc (.cells cs e)) (n + 1) old e
    have hcm := grownCap_le_maxLen (w.alloc (.cells cs e)) (n + 1) old e (by unfold maxLen; omega)
    refine ⟨⟨hlen, .inr ⟨(w.alloc (.cells cs e)).heap.size, _, _, rfl, by simp, heap_alloc_new (w.alloc (.cells cs e)).drew _, hge, hcm, ?_, ?_⟩⟩, bA (bD (bz1 w _) 1) _⟩
    · simp only [Array.size_append, List.size_toArray, size_zeroCells, hzs, hs.1, hc1, ← Nat.add_mul]
      congr 1
      omega
    · simp only [Array.toList_append, List.append_assoc]
      rw [← List.append_assoc, ← hlen]
      exact List.take_left
  rcases A with _ | ad
  · have hn0 : n = 0 := by
      rcases Nat.eq_zero_or_pos n with h0 | h0
      · exact h0
      · obtain ⟨b, off, h, _⟩ := hs.2 h0
        cases h
    subst hn0
    have hx : xs = [] := List.eq_nil_of_length_eq_zero (by simpa using hs.1)
    subst hx
    have hr := run_append_nil (P := P) (w.alloc (.cells cs e)) t ty e i z ht hi' hz ⟨w.heap.size, 0, none⟩ 1 1 cs.toList hc1 hnew (by omega) (by omega) (by omega)
    have hf := fin 0 (by omega)
    simp only [List.nil_append, Array.empty_append, Nat.zero_add] at hf ⊢
    exact ⟨_, _, _, hr, hf.1, hf.2⟩
  · have hr := run_append_grow (P := P) (w.alloc (.cells cs e)) t ty e i z ht hi' hz ad n n xs hs.1 (fun j u hu => by
      have hm : 0 < n := by
        rcases Nat.eq_zero_or_pos n with h0 | h0
        · subst h0
          have hx : xs = [] := List.eq_nil_of_length_eq_zero (by simpa using hs.1)
          subst hx
          simp at hu
        · exact h0
      obtain ⟨b, off, hA, hlt, hc⟩ := hs.2 hm
      injection hA with hA
      subst hA
      rw [add_plain]
      exact ((bz1 w _).cell (p := ⟨b, off + j, none⟩) hlt).trans (hc j u hu)) ⟨w.heap.size, 0, none⟩ 1 1 cs.toList hc1 hnew (by omega) (by omega) (growslice_fits (by omega) hn)
    have hf := fin n (by omega)
    exact ⟨_, _, _, hr, hf.1, hf.2⟩
end
end Go.Proofs.YtiaabmhjkoohmaaGreat
