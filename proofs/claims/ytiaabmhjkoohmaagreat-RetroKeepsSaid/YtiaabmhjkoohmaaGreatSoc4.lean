/-
 Contract of social.Sum. Conditions as named.
-/
import Derived.Test.YtiaabmhjkoohmaaGreatM2
namespace Go.Proofs.YtiaabmhjkoohmaaGreat
set_option maxRecDepth 100000
set_option maxHeartbeats 25600000
set_option linter.unusedVariables false
set_option linter.unusedSimpArgs false
open Go.RowKit Tryz
open Lib (hid)
theorem sl9 (x : Sh) : (shC x).length = 2 := rfl
theorem OwnS.sl {w : World} {base : Nat} {v : Value} {n : Nat} {l : List Sh} (h : OwnS w base v n l) : ∃ A c, v = .slice A n c ∧ n ≤ c ∧ Sh9 w A n l := by
 obtain ⟨hn, h⟩ := h
 obtain ⟨A, c, rfl, hc, h1, h2, h3⟩ := own_sl shC 2 sh0 sl9 h hn (by decide)
 refine ⟨A, c, rfl, hc, h1, h2, fun h0 => ?_⟩
 obtain ⟨b, off, hA, hlt, hat⟩ := h3 h0
 refine ⟨b, off, hA, hlt, fun k hk => ⟨?_, ?_⟩⟩
 ·
  exact hat k (by omega) 0 _ rfl
 ·
  exact hat k (by omega) 1 _ rfl
theorem Sh9.below {w w' : World} {A : Option Addr} {n : Nat} {l : List Sh} (h : Sh9 w A n l) (hb : Below w.heap.size w w') : Sh9 w' A n l := by
 obtain ⟨h1, h2, h3⟩ := h
 refine ⟨h1, h2, fun h0 => ?_⟩
 obtain ⟨b, off, hA, hlt, hat⟩ := h3 h0
 refine ⟨b, off, hA, Nat.lt_of_lt_of_le hlt hb.size, fun k hk => ?_⟩
 obtain ⟨c0, c1⟩ := hat k hk
 exact ⟨(hb.cell (p := ⟨b, _, none⟩) hlt).trans c0, (hb.cell (p := ⟨b, _, none⟩) hlt).trans c1⟩
def RowsSl (w : World) (A : Option Addr) (m nc : Nat) (f : Nat → List Sh) : Prop :=
 m ≤ 9223372036854775807 ∧ (0 < m → ∃ b off, A = some ⟨b, off, none⟩ ∧ b < w.heap.size ∧ ∀ k, k < m → ∃ B c, w.cell? ⟨b, off + k, none⟩ = some (.slice B nc c) ∧ Sh9 w B nc (f k))
theorem RowsSl.below {w w' : World} {A : Option Addr} {m nc : Nat} {f : Nat → List Sh} (h : RowsSl w A m nc f) (hb : Below w.heap.size w w') : RowsSl w' A m nc f := by
 refine ⟨h.1, fun h0 => ?_⟩
 obtain ⟨b, off, hA, hlt, hat⟩ := h.2 h0
 refine ⟨b, off, hA, Nat.lt_of_lt_of_le hlt hb.size, fun k hk => ?_⟩
 obtain ⟨B, c, h1, h2⟩ := hat k hk
 exact ⟨B, c, (hb.cell (p := ⟨b, _, none⟩) hlt).trans h1, h2.below hb⟩
theorem RowsOwn.sl {w : World} {base : Nat} {v : Value} {n nc : Nat} {f : Nat → List Sh} (h : RowsOwn w base v n nc f) (hn : n ≤ 9223372036854775807) : ∃ A c, v = .slice A n c ∧ n ≤ c ∧ RowsSl w A n nc f := by
 obtain ⟨vs, h1, h2⟩ := h
 rcases Nat.eq_zero_or_pos n with h0 | h0
 ·
  subst h0
  rcases h1.2 with ⟨rfl, _⟩ | ⟨g, cap, cur, rfl, _⟩
  ·
   exact ⟨none, 0, rfl, by omega, by omega, fun h => absurd h (by omega)⟩
  ·
   exact ⟨_, cap, rfl, by omega, by omega, fun h => absurd h (by omega)⟩
 ·
  obtain ⟨g, cap, rfl, hg, hlt, hc, ho⟩ := own_form h1 h0
  refine ⟨_, cap, rfl, hc, hn, fun _ => ⟨g, 0, rfl, hlt, fun k hk => ?_⟩⟩
  obtain ⟨u, h3, h4⟩ := h2 k hk
  obtain ⟨A, c, rfl, _, hs⟩ := h4.sl
  refine ⟨A, c, ?_, hs⟩
  rw [Nat.zero_add, ho.cellAt k (by omega), h3]
def sumI (f : Nat → List Sh) (k i : Nat) : Sh := ⟨sumTo (fun j => ((f j).getD i sh0).a) k, sumTo (fun j => ((f j).getD i sh0).b) k⟩
def sumL (f : Nat → List Sh) (nc k j : Nat) : List Sh := (List.range nc).map fun i => if i < j then sumI f (k + 1) i else sumI f k i
def okS (f : Nat → List Sh) (k i : Nat) : Bool := mrB ((f k).getD i sh0).a && mrB ((f k).getD i sh0).b && mrB (sumI f (k + 1) i).a && mrB (sumI f (k + 1) i).b
def SumR (f : Nat → List Sh) (m nc : Nat) (w : World) (e : Ending) (w' : World) : Prop :=
  (((∀ k i, k < m → i < nc → okS f k i = true) ∧ ∃ v, e = .returned (.tuple #[v, .int .i64 0]) ∧ OwnS w' w.heap.size v nc (sumL f nc m 0)) ∨
   ((∃ k i, k < m ∧ i < nc ∧ okS f k i = false) ∧ e = .returned (.tuple #[.slice none 0 0, .int .i64 10]))) ∧ Below w.heap.size w w'
theorem sumL_next (f : Nat → List Sh) (nc k : Nat) : sumL f nc k nc = sumL f nc (k + 1) 0 := by
 unfold sumL
 apply List.map_congr_left
 intro i hi
 have : i < nc := by simpa using hi
 simp [this]
theorem sumL_start (f : Nat → List Sh) (nc : Nat) : (sumL f nc 0 0).flatMap shC = List.replicate (nc * 2) (Value.int .i64 0) := by
 unfold sumL
 have h : ∀ i, (if i < 0 then sumI f (0 + 1) i else sumI f 0 i) = ⟨0, 0⟩ := fun i => by simp [sumI, sumTo]
 simp only [h]
 induction nc with
 | zero => simp
 | succ n ih =>
  rw [List.range_succ, List.map_append, List.flatMap_append, ih, Nat.succ_mul, ← List.replicate_append_replicate]
  rfl
theorem flatMap_set (l : List Sh) (j : Nat) (x : Sh) (hj : j < l.length) : ((l.flatMap shC).set (j * 2) (.int .i64 x.a)).set (j * 2 + 1) (.int .i64 x.b) = (l.set j x).flatMap shC := by
 induction l generalizing j with
 | nil => simp at hj
 | cons y l ih =>
  cases j with
  | zero => simp [shC]
  | succ j =>
   rw [List.flatMap_cons, List.set_cons_succ, List.flatMap_cons, ← ih j (by simpa using hj)]
   simp only [shC, List.cons_append, List.nil_append]
   rw [show (j + 1) * 2 = j * 2 + 1 + 1 by omega]
   simp only [List.set_cons_succ]
theorem sumL_set (f : Nat → List Sh) (nc k j : Nat) (hj : j < nc) : (sumL f nc k j).set j (sumI f (k + 1) j) = sumL f nc k (j + 1) := by
 unfold sumL
 apply List.ext_getElem
 ·
  simp
 ·
  intro i h1 h2
  rw [List.getElem_set]
  by_cases h : j = i
  ·
   subst h; simp
  ·
   rw [if_neg h]
   by_cases h3 : i < j
   ·
    simp [h3, Nat.lt_succ_of_lt h3]
   ·
    simp [h3, show ¬ i < j + 1 from by omega]
theorem shC_get (l : List Sh) (j : Nat) (hj : j < l.length) : (l.flatMap shC)[j * 2]? = some (.int .i64 (l.getD j sh0).a) ∧ (l.flatMap shC)[j * 2 + 1]? = some (.int .i64 (l.getD j sh0).b) := by
 induction l generalizing j with
 | nil => simp at hj
 | cons y l ih =>
  cases j with
  | zero => simp [shC]
  | succ j =>
   have := ih j (by simpa using hj)
   rw [List.flatMap_cons, show (j + 1) * 2 = j * 2 + 1 + 1 by omega]
   simpa [shC] using this
theorem sumL_at (f : Nat → List Sh) (nc k j : Nat) (hj : j < nc) : (sumL f nc k j).getD j sh0 = sumI f k j := by
 simp [sumL, List.getD, hj]
theorem sum_mr (f : Nat → List Sh) (nc k : Nat) (h : ∀ j i, j < k → i < nc → okS f j i = true) (i : Nat) (hi : i < nc) : mrB (sumI f k i).a = true ∧ mrB (sumI f k i).b = true := by
 cases k with
 | zero => exact ⟨by simp [sumI, sumTo]; decide, by simp [sumI, sumTo]; decide⟩
 | succ k =>
  have := h k i (by omega) hi
  simp only [okS, Bool.and_eq_true] at this
  exact ⟨this.1.2, this.2⟩
theorem sh_sl (w : World) (a b c d : Int) : Sh9 (w.alloc (.cells #[.int .i64 a, .int .i64 b, .int .i64 c, .int .i64 d] 79)) (some ⟨w.heap.size, 0, none⟩) 2 [⟨a, b⟩, ⟨c, d⟩] := by
 refine ⟨rfl, by decide, fun _ => ⟨w.heap.size, 0, rfl, by simp, fun k hk => ?_⟩⟩
 rcases (show k = 0 ∨ k = 1 from by simp at hk; omega) with rfl | rfl <;> simp
theorem sh_sl_at (w : World) (g : Nat) (hg : g = w.heap.size) (a b c d : Int) : Sh9 (w.alloc (.cells #[.int .i64 a, .int .i64 b, .int .i64 c, .int .i64 d] 79)) (some ⟨g, 0, none⟩) 2 [⟨a, b⟩, ⟨c, d⟩] := by subst hg; exact sh_sl w a b c d
theorem zero_box2 {w w2 : World} {t : TypeId} {o : Obj} {cs : Array Value} (h : Below (((w.alloc (.cells cs t)).alloc o).drew).heap.size (((w.alloc (.cells cs t)).alloc o).drew) w2) : Blk w2 w.heap.size t cs :=
 Blk.below (w := ((w.alloc (.cells cs t)).alloc o).drew) ((Blk.mk w t cs).alloc o) h (by simp; omega)
theorem zero_box {w w2 : World} {t : TypeId} {o : Obj} {cs : Array Value} (h : Below (((w.alloc o).alloc (.cells cs t)).drew).heap.size (((w.alloc o).alloc (.cells cs t)).drew) w2) : Blk w2 (w.heap.size + 1) t cs := by
 have := Blk.mk (w.alloc o) t cs
 rw [World.size_alloc] at this
 exact Blk.below (w := ((w.alloc o).alloc (.cells cs t)).drew) this h (by simp)
theorem Sh9.dr {w : World} {A : Option Addr} {n : Nat} {l : List Sh} (h : Sh9 w A n l) : Sh9 w.drew A n l := h
theorem total2_t (x y : Sh) (A : Option Addr) (c : Nat) (w : World) (h : Sh9 w A 2 [x, y]) (hx : mrB x.a = true) (hy : mrB x.b = true) (hk : (mrB y.a && mrB y.b && mrB (x.a + y.a) && mrB (x.b + y.b)) = true) :
  Calls prog 141 #[.slice A 2 c] w fun e w' => e = .returned (.tuple #[.agg #[.int .i64 (x.a + y.a), .int .i64 (x.b + y.b)], .int .i64 0]) ∧ Below w.heap.size w w' := by
 refine (total_c [x, y] A 2 c w h).mono ?_
 rintro e w' ⟨⟨h1, rfl⟩ | ⟨⟨k, hk', h1⟩, rfl⟩, hb⟩
 ·
  exact ⟨by simp [sumTo], hb⟩
 ·
  exfalso
  simp only [Bool.and_eq_true] at hk
  rcases (by omega : k = 0 ∨ k = 1) with rfl | rfl
  ·
   simp [totAt, sumTo, hx, hy] at h1
  ·
   simp [totAt, sumTo, hk.1.1.1, hk.1.1.2, hk.1.2, hk.2] at h1
theorem total2_f (x y : Sh) (A : Option Addr) (c : Nat) (w : World) (h : Sh9 w A 2 [x, y]) (hx : mrB x.a = true) (hy : mrB x.b = true) (hk : (mrB y.a && mrB y.b && mrB (x.a + y.a) && mrB (x.b + y.b)) = false) :
  Calls prog 141 #[.slice A 2 c] w fun e w' => e = .returned (.tuple #[.agg #[.int .i64 0, .int .i64 0], .int .i64 10]) ∧ Below w.heap.size w w' := by
 refine (total_c [x, y] A 2 c w h).mono ?_
 rintro e w' ⟨⟨h1, rfl⟩ | ⟨⟨k, hk', h1⟩, rfl⟩, hb⟩
 ·
  exfalso
  have := h1 1 (by omega)
  simp [totAt, sumTo] at this
  simp [this] at hk
 ·
  exact ⟨rfl, hb⟩
theorem sum_c (f : Nat → List Sh) (A : Option Addr) (m c nc : Nat) (w : World) (h : RowsSl w A m nc f) (hn : nc ≤ 64) :
  Calls prog 97 #[.int .i64 nc, .slice A m c] w (SumR f m nc w) := by
 have HS := hid h
 have hm := h.1
 have n0 : decide ((nc : Int) < 0) = false := by simp
 have n1 : decide ((64 : Int) < (nc : Int)) = false := by simp; omega
 have n2 : ¬ (64 : Int) < (nc : Int) := by omega
 have hmk := fun W => run_make_K (P := prog) 71 79 (.agg #[.int .i64 0, .int .i64 0]) 2 16 underlying71 info_share nc (by omega) (by omega) W
 have hmo := own_made w 79 (Value.cells (.agg #[.int .i64 0, .int .i64 0])) 2 nc (by omega) (base := w.heap.size) (by simp)
 have hrep : (madeCells (Value.cells (.agg #[.int .i64 0, .int .i64 0])) (nc * 2)).toList = List.replicate (nc * 2) (Value.int .i64 0) := by
  apply List.ext_getElem?
  intro i
  by_cases hi : i < nc * 2
  ·
   have h2 : i % 2 = 0 ∨ i % 2 = 1 := by omega
   rcases h2 with h2 | h2 <;> simp [madeCells, hi, Value.cells, h2]
  ·
   simp [madeCells, hi]
 rw [hrep, ← sumL_start f nc] at hmo
 have HMO := hid hmo
 clear h hmo hrep
 go_enter func97, ntmps97
 go_wp2_with fail
 clear hmk
 go_loopw [22] (fun i wr => ∃ k : Nat, k ≤ m ∧ i = .int .i64 k ∧ Hid (∀ j i, j < k → i < nc → okS f j i = true) ∧ OwnS wr w.heap.size (.slice (some ⟨w.heap.size, 0, none⟩) nc nc) nc (sumL f nc k 0) ∧ Below w.heap.size w wr) (fun i _ => m - (intOf i).toNat)
 case atStart => exact ⟨0, Nat.zero_le _, rfl, fun j i hj => absurd hj (by omega), ⟨by simp [sumL], HMO.out⟩, bz1 _ _⟩
 case round =>
  obtain ⟨k, hk', rfl, hM, ⟨ho1, ho⟩, hbl⟩ := hrel
  by_cases hk : k < m
  case neg =>
   obtain rfl : k = m := by omega
   have HO1 := hid ho1
   clear ho1
   go_wp2_with fail
   go_ret2
   exact ⟨Or.inl ⟨hM.out, _, rfl, HO1.out, ho⟩, hbl⟩
  obtain ⟨b, off, rfl, hlt, hat⟩ := HS.out.2 (by omega)
  obtain ⟨B, cB, d0, hrow⟩ := hat k hk
  rw [← hbl.cell (p := ⟨b, _, none⟩) hlt] at d0
  have hblo := hbl.size
  have HO1 := hid ho1
  have HH := hid hat
  have HRW := hid hrow
  have tn : ((nc : Int) != (nc : Int)) = false := by simp
  clear ho1 hat hrow
  obtain ⟨wo, rfl⟩ : ∃ wo : World, wo = wr := ⟨_, rfl⟩
  go_wp2_with fail
  go_loopw [9, 10, 11, 32] (fun _ _ _ i wr => ∃ j : Nat, j ≤ nc ∧ i = .int .i64 j ∧ Hid (∀ i, i < j → okS f k i = true) ∧ OwnS wr w.heap.size (.slice (some ⟨w.heap.size, 0, none⟩) nc nc) nc (sumL f nc k j) ∧ Below w.heap.size w wr) (fun _ _ _ i _ => nc - (intOf i).toNat)
  case atStart => exact ⟨0, Nat.zero_le _, rfl, fun i hi => absurd hi (by omega), ⟨HO1.out, ho⟩, hbl⟩
  case round =>
   obtain ⟨j, hj', rfl, hM2, ⟨hp1, hp⟩, hbl2⟩ := hrel
   have HP1 := hid hp1
   clear hp1
   by_cases hj : j < nc
   case neg =>
    obtain rfl : j = nc := by omega
    have HN := hid (sumL_next f j k)
    go_wp2_with fail
    go_roundw
    case rel =>
     refine ⟨k + 1, by omega, by go_num, fun j' i hj' hi => ?_, ⟨by simp [sumL], by rw [← HN.out]; exact hp⟩, hbl2⟩
     rcases (by omega : j' = k ∨ j' < k) with rfl | hj'
     ·
      exact hM2.out i hi
     ·
      exact hM.out j' i hj' hi
    case measure => simp [intOf]; omega
   obtain ⟨hr1, hr2, hr3⟩ := HRW.out.below hbl2
   obtain ⟨br, offr, rfl, hltr, hatr⟩ := hr3 (by omega)
   obtain ⟨e0, e1⟩ := hatr j (by omega)
   obtain ⟨g0, g1⟩ := shC_get (sumL f nc k j) j (by rw [← HP1.out]; exact hj)
   rw [sumL_at f nc k j hj] at g0 g1
   have o0 := (hp.cellAt (j * 2) (by omega)).trans g0
   have o1 := (hp.cellAt (j * 2 + 1) (by omega)).trans g1
   have hmm := sum_mr f nc k hM.out j hj
   have hlg : w.heap.size < wr.heap.size := by have := (hp.lt _ rfl).2; exact this
   have HOK : Hid (okS f k j = (mrB ((f k).getD j sh0).a && mrB ((f k).getD j sh0).b && mrB ((sumI f k j).a + ((f k).getD j sh0).a) && mrB ((sumI f k j).b + ((f k).getD j sh0).b))) := rfl
   have HNX : Hid (sumI f (k + 1) j = ⟨(sumI f k j).a + ((f k).getD j sh0).a, (sumI f k j).b + ((f k).getD j sh0).b⟩) := rfl
   have HP := hid hp
   clear hatr g0 g1 hp hr1 hr2 hr3
   generalize sumI f k j = x at *
   generalize (f k).getD j sh0 = y at *
   obtain ⟨oa, ob⟩ := x
   obtain ⟨ra, rb⟩ := y
   dsimp only at e0 e1 o0 o1 hmm HOK HNX
   have G : Hid (∀ W, Below wr.heap.size wr W → Below wr.heap.size wr W ∧ W.cell? ⟨w.heap.size, j * 2, none⟩ = some (.int .i64 oa) ∧ W.cell? ⟨w.heap.size, j * 2 + 1, none⟩ = some (.int .i64 ob) ∧ W.cell? ⟨br, offr + j * 2, none⟩ = some (.int .i64 ra) ∧ W.cell? ⟨br, offr + j * 2 + 1, none⟩ = some (.int .i64 rb)) := fun W hW =>
    ⟨hW, (hW.cell (p := ⟨w.heap.size, j * 2, none⟩) hlg).trans o0, (hW.cell (p := ⟨w.heap.size, j * 2 + 1, none⟩) hlg).trans o1, (hW.cell (p := ⟨br, offr + j * 2, none⟩) hltr).trans e0, (hW.cell (p := ⟨br, offr + j * 2 + 1, none⟩) hltr).trans e1⟩
   have j0 : (0 : Int) ≤ (j : Int) := by omega
   have j1 : (j : Int) < (nc : Int) := by omega
   have j2 : ((j : Int)).toNat = j := by omega
   cases hcs : (mrB ra && mrB rb && mrB (oa + ra) && mrB (ob + rb))
   ·
    have KT := hid (fun A c W h => total2_f ⟨oa, ob⟩ ⟨ra, rb⟩ A c W h hmm.1 hmm.2 hcs)
    have HN := hid (HOK.out.trans hcs)
    clear hcs
    go_wp2_with fail
    go_region_held3 (fun W => Below wr.heap.size wr W ∧ W.cell? ⟨w.heap.size, j * 2, none⟩ = some (.int .i64 oa) ∧ W.cell? ⟨w.heap.size, j * 2 + 1, none⟩ = some (.int .i64 ob) ∧ W.cell? ⟨br, offr + j * 2, none⟩ = some (.int .i64 ra) ∧ W.cell? ⟨br, offr + j * 2 + 1, none⟩ = some (.int .i64 rb))
     (first | assumption | exact G.out _ (b0 _).drew | exact G.out _ (bA (b0 _) _).drew | (exact sK G.out (by assumption) (by assumption)) | (exact sK G.out (by assumption) (bz1 _ _)) | (exact sK G.out (by assumption) ((bz1 _ _).setCell (Nat.le_refl _) _)) | exact G.out _ (bA (bT ((bA (b0 _) _).drew) hb2) _) | exact G.out _ (bA (bA (b0 _) _) _).drew | exact G.out _ (bS (bS (bT ((bA (bA (b0 _) _) _).drew) hb2) (show wr.heap.size ≤ wr.heap.size + 1 by omega) _) (show wr.heap.size ≤ wr.heap.size + 1 by omega) _) | exact G.out _ (bS (bS (bT ((bA (bA (b0 _) _) _).drew) hb2) (Nat.le_refl _) _) (Nat.le_refl _) _))
     (first | (go_at_call 141; first | ((with_reducible refine (KT.out _ _ _ (sh_sl wr oa ob ra rb).dr).mono ?_); rintro e w2 ⟨rfl, hb2⟩) | ((with_reducible refine (KT.out _ _ _ ((sh_sl wr oa ob ra rb).below (bz1 _ _)).dr).mono ?_); rintro e w2 ⟨rfl, hb2⟩; have zb := zero_box hb2; obtain ⟨x0, x1, x2, x3⟩ := zb.all2) | ((with_reducible refine (KT.out _ _ _ (sh_sl_at (wr.alloc _) (wr.heap.size + 1) (by simp) oa ob ra rb).dr).mono ?_); rintro e w2 ⟨rfl, hb2⟩; have zb := zero_box2 hb2; obtain ⟨x0, x1, x2, x3⟩ := zb.all2)))
    all_goals
     have hB := (show Below wr.heap.size wr _ ∧ _ from by assumption).1
     have hBB := bT hbl2 hB
     go_wp2_with fail
     go_ret2
     exact ⟨Or.inr ⟨⟨k, j, hk, hj, HN.out⟩, rfl⟩, hBB⟩
   ·
    have KT := hid (fun A c W h => total2_t ⟨oa, ob⟩ ⟨ra, rb⟩ A c W h hmm.1 hmm.2 hcs)
    have HN := hid (HOK.out.trans hcs)
    clear hcs
    go_wp2_with fail
    go_region_held3 (fun W => Below wr.heap.size wr W ∧ W.cell? ⟨w.heap.size, j * 2, none⟩ = some (.int .i64 oa) ∧ W.cell? ⟨w.heap.size, j * 2 + 1, none⟩ = some (.int .i64 ob) ∧ W.cell? ⟨br, offr + j * 2, none⟩ = some (.int .i64 ra) ∧ W.cell? ⟨br, offr + j * 2 + 1, none⟩ = some (.int .i64 rb))
     (first | assumption | exact G.out _ (b0 _).drew | exact G.out _ (bA (b0 _) _).drew | (exact sK G.out (by assumption) (by assumption)) | (exact sK G.out (by assumption) (bz1 _ _)) | (exact sK G.out (by assumption) ((bz1 _ _).setCell (Nat.le_refl _) _)) | exact G.out _ (bA (bT ((bA (b0 _) _).drew) hb2) _) | exact G.out _ (bA (bA (b0 _) _) _).drew | exact G.out _ (bS (bS (bT ((bA (bA (b0 _) _) _).drew) hb2) (show wr.heap.size ≤ wr.heap.size + 1 by omega) _) (show wr.heap.size ≤ wr.heap.size + 1 by omega) _) | exact G.out _ (bS (bS (bT ((bA (bA (b0 _) _) _).drew) hb2) (Nat.le_refl _) _) (Nat.le_refl _) _))
     (first | (go_at_call 141; first | ((with_reducible refine (KT.out _ _ _ (sh_sl wr oa ob ra rb).dr).mono ?_); rintro e w2 ⟨rfl, hb2⟩) | ((with_reducible refine (KT.out _ _ _ ((sh_sl wr oa ob ra rb).below (bz1 _ _)).dr).mono ?_); rintro e w2 ⟨rfl, hb2⟩; have zb := zero_box hb2; obtain ⟨x0, x1, x2, x3⟩ := zb.all2) | ((with_reducible refine (KT.out _ _ _ (sh_sl_at (wr.alloc _) (wr.heap.size + 1) (by simp) oa ob ra rb).dr).mono ?_); rintro e w2 ⟨rfl, hb2⟩; have zb := zero_box2 hb2; obtain ⟨x0, x1, x2, x3⟩ := zb.all2)))
    all_goals
     have hB := (show Below wr.heap.size wr _ ∧ _ from by assumption).1
     obtain ⟨_, s0, s1, s2, s3⟩ := G.out _ hB
     have hBB := bT hbl2 hB
     have HQ := oB9 HP.out hB
     have q0 := HQ.frozenAt (j * 2)
     have q1 := HQ.frozenAt (j * 2 + 1)
     have st := (HQ.stored (j * 2) (.int .i64 (oa + ra))).1.stored (j * 2 + 1) (.int .i64 (ob + rb))
     have hls := flatMap_set (sumL f nc k j) j ⟨oa + ra, ob + rb⟩ (by rw [← HP1.out]; exact hj)
     rw [← HNX.out, sumL_set f nc k j hj] at hls
     rw [HNX.out] at hls
     dsimp only at hls
     rw [hls] at st
     have HST := hid st.1
     have HBZ := hid (bS (bS hBB (p := ⟨w.heap.size, j * 2, none⟩) (Nat.le_refl _) (.int .i64 (oa + ra))) (p := ⟨w.heap.size, j * 2 + 1, none⟩) (Nat.le_refl _) (.int .i64 (ob + rb)))
     clear HQ st hls
     go_wp2_with fail
     go_roundw
     case rel =>
      refine ⟨j + 1, by omega, by go_num, fun i hi => ?_, ⟨by simp [sumL], HST.out⟩, HBZ.out⟩
      rcases (by omega : i = j ∨ i < j) with rfl | hi
      ·
       exact HN.out
      ·
       exact hM2.out i hi
     case measure => simp [intOf]; omega
end Go.Proofs.YtiaabmhjkoohmaaGreat
