/-
 Contracts of order.before, of the library's binary search and of its insertion at orders' states. Conditions as named.
-/
import Derived.Test.YtiaabmhjkoohmaaGreatM1
namespace Go.Proofs.YtiaabmhjkoohmaaGreat
set_option maxRecDepth 100000
set_option maxHeartbeats 25600000
set_option linter.unusedVariables false
set_option linter.unusedSimpArgs false
open Go.RowKit Tryz
open Lib (hid)
theorem before_c (xd xp xa xr xt xk xs yd yp ya yr yt yk ys : Int) (w : World) (r : Int) (hr : Hid (r = befI ⟨xd, xp, xa, xr, xt, xk, xs⟩ ⟨yd, yp, ya, yr, yt, yk, ys⟩)) :
    Calls prog 115 #[.agg #[.int .i64 xd, .int .i64 xp, .int .i64 xa, .int .i64 xr, .int .i64 xt, .int .i64 xk, .int .i64 xs], .agg #[.int .i64 yd, .int .i64 yp, .int .i64 ya, .int .i64 yr, .int .i64 yt, .int .i64 yk, .int .i64 ys]] w fun e w' => e = .returned (.int .i64 r) ∧ Below w.heap.size w w' := by
  have hb0 := bA (bz1 w (.cells #[.int .i64 xd, .int .i64 xp, .int .i64 xa, .int .i64 xr, .int .i64 xt, .int .i64 xk, .int .i64 xs] 213)) (.cells #[.int .i64 yd, .int .i64 yp, .int .i64 ya, .int .i64 yr, .int .i64 yt, .int .i64 yk, .int .i64 ys] 213)
  have z := (Blk.mk w 213 #[.int .i64 xd, .int .i64 xp, .int .i64 xa, .int .i64 xr, .int .i64 xt, .int .i64 xk, .int .i64 xs]).alloc (.cells #[.int .i64 yd, .int .i64 yp, .int .i64 ya, .int .i64 yr, .int .i64 yt, .int .i64 yk, .int .i64 ys] 213)
  have y := Blk.mk (w.alloc (.cells #[.int .i64 xd, .int .i64 xp, .int .i64 xa, .int .i64 xr, .int .i64 xt, .int .i64 xk, .int .i64 xs] 213)) 213 #[.int .i64 yd, .int .i64 yp, .int .i64 ya, .int .i64 yr, .int .i64 yt, .int .i64 yk, .int .i64 ys]
  rw [World.size_alloc] at y
  obtain ⟨c1, h1⟩ : ∃ c, Lib.compareInt xp yp = c := ⟨_, rfl⟩
  obtain ⟨c2, h2⟩ : ∃ c, Lib.compareInt xd yd = c := ⟨_, rfl⟩
  have K1 : Hid (∀ W, Calls prog 153 #[.int .i64 xp, .int .i64 yp] W fun e w' => e = .returned (.int .i64 c1) ∧ W = w') := fun W => by
    rw [← h1]; exact (Tryz.cmp_Compare_int xp yp W).mono fun e w' ⟨a, b⟩ => ⟨a, b.symm⟩
  have K2 : Hid (∀ W, Calls prog 153 #[.int .i64 xd, .int .i64 yd] W fun e w' => e = .returned (.int .i64 c2) ∧ W = w') := fun W => by
    rw [← h2]; exact (Tryz.cmp_Compare_int xd yd W).mono fun e w' ⟨a, b⟩ => ⟨a, b.symm⟩
  have HR : Hid (r = if c1 ≠ 0 then c1 else c2) := by rw [← h1, ← h2]; exact hr
  have KO : Hid (∀ g W, W.cell? ⟨g, 0, none⟩ = some (.int .i64 c1) → W.cell? ⟨g, 1, none⟩ = some (.int .i64 c2) → Calls prog 152 #[.slice (some ⟨g, 0, none⟩) 2 2] W fun e w' => e = .returned (.int .i64 r) ∧ W = w') := fun g W a b => cor_c g c1 c2 W a b r HR
  have G : Hid (∀ W, Below (((w.alloc (.cells #[.int .i64 xd, .int .i64 xp, .int .i64 xa, .int .i64 xr, .int .i64 xt, .int .i64 xk, .int .i64 xs] 213)).alloc (.cells #[.int .i64 yd, .int .i64 yp, .int .i64 ya, .int .i64 yr, .int .i64 yt, .int .i64 yk, .int .i64 ys] 213))).heap.size ((w.alloc (.cells #[.int .i64 xd, .int .i64 xp, .int .i64 xa, .int .i64 xr, .int .i64 xt, .int .i64 xk, .int .i64 xs] 213)).alloc (.cells #[.int .i64 yd, .int .i64 yp, .int .i64 ya, .int .i64 yr, .int .i64 yt, .int .i64 yk, .int .i64 ys] 213)) W → Below (((w.alloc (.cells #[.int .i64 xd, .int .i64 xp, .int .i64 xa, .int .i64 xr, .int .i64 xt, .int .i64 xk, .int .i64 xs] 213)).alloc (.cells #[.int .i64 yd, .int .i64 yp, .int .i64 ya, .int .i64 yr, .int .i64 yt, .int .i64 yk, .int .i64 ys] 213))).heap.size ((w.alloc (.cells #[.int .i64 xd, .int .i64 xp, .int .i64 xa, .int .i64 xr, .int .i64 xt, .int .i64 xk, .int .i64 xs] 213)).alloc (.cells #[.int .i64 yd, .int .i64 yp, .int .i64 ya, .int .i64 yr, .int .i64 yt, .int .i64 yk, .int .i64 ys] 213)) W ∧ (W.cell? ⟨w.heap.size, 0, none⟩ = some (.int .i64 xd) ∧ W.cell? ⟨w.heap.size, 1, none⟩ = some (.int .i64 xp)) ∧ (W.cell? ⟨w.heap.size + 1, 0, none⟩ = some (.int .i64 yd) ∧ W.cell? ⟨w.heap.size + 1, 1, none⟩ = some (.int .i64 yp))) := fun W hW => ⟨hW, ⟨(z.t hW).cell 0, (z.t hW).cell 1⟩, (y.t hW).cell 0, (y.t hW).cell 1⟩
  clear hr h1 h2 HR z y
  go_enter func115, ntmps115
  go_wp2_with fail
  go_region_held3 (fun W => Below (((w.alloc (.cells #[.int .i64 xd, .int .i64 xp, .int .i64 xa, .int .i64 xr, .int .i64 xt, .int .i64 xk, .int .i64 xs] 213)).alloc (.cells #[.int .i64 yd, .int .i64 yp, .int .i64 ya, .int .i64 yr, .int .i64 yt, .int .i64 yk, .int .i64 ys] 213))).heap.size ((w.alloc (.cells #[.int .i64 xd, .int .i64 xp, .int .i64 xa, .int .i64 xr, .int .i64 xt, .int .i64 xk, .int .i64 xs] 213)).alloc (.cells #[.int .i64 yd, .int .i64 yp, .int .i64 ya, .int .i64 yr, .int .i64 yt, .int .i64 yk, .int .i64 ys] 213)) W ∧ (W.cell? ⟨w.heap.size, 0, none⟩ = some (.int .i64 xd) ∧ W.cell? ⟨w.heap.size, 1, none⟩ = some (.int .i64 xp)) ∧ (W.cell? ⟨w.heap.size + 1, 0, none⟩ = some (.int .i64 yd) ∧ W.cell? ⟨w.heap.size + 1, 1, none⟩ = some (.int .i64 yp)))
    (first | assumption | exact G.out _ (b0 _).drew | (exact sK G.out (by assumption) (by assumption)) | (exact sK G.out (by assumption) (bz1 _ _)))
    (first
      | (go_at_call 153; (with_reducible refine (K1.out _).mono ?_); rintro e w1 ⟨rfl, rfl⟩)
      | (go_at_call 153; (with_reducible refine (K2.out _).mono ?_); rintro e w1 ⟨rfl, rfl⟩)
      | (go_at_call 152; (with_reducible refine (KO.out _ _ (by simp [ca9]) (by simp [ca9])).mono ?_); rintro e w1 ⟨rfl, rfl⟩))
  all_goals
    have hbz := bT hb0 (show Below (((w.alloc (.cells #[.int .i64 xd, .int .i64 xp, .int .i64 xa, .int .i64 xr, .int .i64 xt, .int .i64 xk, .int .i64 xs] 213)).alloc (.cells #[.int .i64 yd, .int .i64 yp, .int .i64 ya, .int .i64 yr, .int .i64 yt, .int .i64 yk, .int .i64 ys] 213))).heap.size ((w.alloc (.cells #[.int .i64 xd, .int .i64 xp, .int .i64 xa, .int .i64 xr, .int .i64 xt, .int .i64 xk, .int .i64 xs] 213)).alloc (.cells #[.int .i64 yd, .int .i64 yp, .int .i64 ya, .int .i64 yr, .int .i64 yt, .int .i64 yk, .int .i64 ys] 213)) _ ∧ _ from by assumption).1
    go_wp2_with fail
    go_ret
    exact ⟨rfl, hbz⟩
def BinR (l : List Od) (z : Od) (W : World) (e : Ending) (w' : World) : Prop := (∃ b : Bool, e = .returned (.tuple #[.int .i64 (posO l z : Nat), .bool b])) ∧ Below W.heap.size W w'
theorem bsearch_c (B : Option Addr) (n c : Nat) (l : List Od) (xd xp xa xr xt xk xs : Int) (w : World) (hs : OdSl w B n l) (hso : SortO l) (hn : n ≤ 1000000) :
  Calls prog 114 #[.slice B n c, .agg #[.int .i64 xd, .int .i64 xp, .int .i64 xa, .int .i64 xr, .int .i64 xt, .int .i64 xk, .int .i64 xs], .func (Fn.func 115) #[] #[]] w (BinR l ⟨xd, xp, xa, xr, xt, xk, xs⟩ w) := by
 have hb0 := bz1 w (.cells #[.int .i64 xd, .int .i64 xp, .int .i64 xa, .int .i64 xr, .int .i64 xt, .int .i64 xk, .int .i64 xs] 213)
 have HS := hid (hs.below hb0)
 have HL := hid hs.1
 have HSO := hid hso
 have z := Blk.mk w 213 #[.int .i64 xd, .int .i64 xp, .int .i64 xa, .int .i64 xr, .int .i64 xt, .int .i64 xk, .int .i64 xs]
 clear hs hso
 go_enter func114, ntmps114
 go_wp2_with fail
 go_loopw [9, 10] (fun u v wr => ∃ i j : Nat, i ≤ j ∧ j ≤ n ∧ u = .int .i64 i ∧ v = .int .i64 j ∧ Hid (∀ k, k < i → befI (l.getD k od0) ⟨xd, xp, xa, xr, xt, xk, xs⟩ < 0) ∧ Hid (∀ k, j ≤ k → k < n → 0 ≤ befI (l.getD k od0) ⟨xd, xp, xa, xr, xt, xk, xs⟩) ∧ Below (w.alloc (.cells #[.int .i64 xd, .int .i64 xp, .int .i64 xa, .int .i64 xr, .int .i64 xt, .int .i64 xk, .int .i64 xs] 213)).heap.size (w.alloc (.cells #[.int .i64 xd, .int .i64 xp, .int .i64 xa, .int .i64 xr, .int .i64 xt, .int .i64 xk, .int .i64 xs] 213)) wr) (fun u v _ => (intOf v).toNat - (intOf u).toNat)
 case atStart => exact ⟨0, n, Nat.zero_le _, Nat.le_refl _, rfl, rfl, fun k hk => absurd hk (by omega), fun k h1 h2 => absurd h1 (by omega), b0 _⟩
 case round =>
  obtain ⟨i, j, hij, hjn, rfl, rfl, HA, HB, hbl⟩ := hrel
  have hsz := hbl.size
  rw [World.size_alloc] at hsz
  have hB := bT hb0 hbl
  by_cases hlt : i < j
  ·
   obtain ⟨m, hm⟩ : ∃ m, m = (i + j) / 2 := ⟨_, rfl⟩
   have hmi : ((i : Int) + (j : Int)) / 2 = (m : Int) := by omega
   have hm1 : i ≤ m := by omega
   have hm2 : m < j := by omega
   have hm3 : m < n := by omega
   have HMI := hid hmi
   clear hm hmi
   obtain ⟨b, off, rfl, hltb, hat⟩ := (HS.out.below hbl).2.2 (by omega)
   have hcl := hat m hm3
   have HLO : Hid (befI (l.getD m od0) ⟨xd, xp, xa, xr, xt, xk, xs⟩ < 0 → ∀ k, k < m + 1 → befI (l.getD k od0) ⟨xd, xp, xa, xr, xt, xk, xs⟩ < 0) := fun h k hk => by
    rcases (by omega : k = m ∨ k < m) with rfl | hk2
    ·
     exact h
    ·
     have h2 : k < l.length := by rw [← HL.out]; omega
     have h3 : m < l.length := by rw [← HL.out]; omega
     have h1 := List.pairwise_iff_getElem.1 HSO.out k m h2 h3 hk2
     rw [gaz l od0 h2]
     rw [gaz l od0 h3] at h
     exact befI_trans h1 h
   have HHI : Hid (¬ befI (l.getD m od0) ⟨xd, xp, xa, xr, xt, xk, xs⟩ < 0 → ∀ k, m ≤ k → k < n → 0 ≤ befI (l.getD k od0) ⟨xd, xp, xa, xr, xt, xk, xs⟩) := fun h k hk hkn => Int.not_lt.1 fun h4 => by
    rcases (by omega : k = m ∨ m < k) with rfl | hk2
    ·
     exact h h4
    ·
     have h2 : k < l.length := by rw [← HL.out]; omega
     have h3 : m < l.length := by rw [← HL.out]; omega
     have h1 := List.pairwise_iff_getElem.1 HSO.out m k h3 h2 hk2
     rw [gaz l od0 h2] at h4
     rw [gaz l od0 h3] at h
     exact h (befI_trans h1 h4)
   generalize l.getD m od0 = zz at *
   obtain ⟨yd, yp, ya, yr, yt, yk, ys⟩ := zz
   obtain ⟨rb, hrb⟩ : ∃ r, r = befI ⟨yd, yp, ya, yr, yt, yk, ys⟩ ⟨xd, xp, xa, xr, xt, xk, xs⟩ := ⟨_, rfl⟩
   have KB := hid (fun W => before_c yd yp ya yr yt yk ys xd xp xa xr xt xk xs W rb (hid hrb))
   rw [← hrb] at HLO HHI
   have HC := hid hcl
   have hbb : b < wr.heap.size := hltb
   have z1 := z.t hbl
   have G : Hid (∀ W, Below wr.heap.size wr W → Below wr.heap.size wr W ∧ (W.cell? ⟨b, off + m * 7, none⟩ = some (.int .i64 yd) ∧ W.cell? ⟨b, off + m * 7 + 1, none⟩ = some (.int .i64 yp) ∧ W.cell? ⟨b, off + m * 7 + 2, none⟩ = some (.int .i64 ya) ∧ W.cell? ⟨b, off + m * 7 + 3, none⟩ = some (.int .i64 yr) ∧ W.cell? ⟨b, off + m * 7 + 4, none⟩ = some (.int .i64 yt) ∧ W.cell? ⟨b, off + m * 7 + 5, none⟩ = some (.int .i64 yk) ∧ W.cell? ⟨b, off + m * 7 + 6, none⟩ = some (.int .i64 ys)) ∧ (W.cell? ⟨w.heap.size, 0, none⟩ = some (.int .i64 xd) ∧ W.cell? ⟨w.heap.size, 1, none⟩ = some (.int .i64 xp) ∧ W.cell? ⟨w.heap.size, 2, none⟩ = some (.int .i64 xa) ∧ W.cell? ⟨w.heap.size, 3, none⟩ = some (.int .i64 xr) ∧ W.cell? ⟨w.heap.size, 4, none⟩ = some (.int .i64 xt) ∧ W.cell? ⟨w.heap.size, 5, none⟩ = some (.int .i64 xk) ∧ W.cell? ⟨w.heap.size, 6, none⟩ = some (.int .i64 xs))) := fun W hW => ⟨hW, (by
    have q := CellsAt.below HC.out hbb hW
    exact ⟨q 0 _ rfl, q 1 _ rfl, q 2 _ rfl, q 3 _ rfl, q 4 _ rfl, q 5 _ rfl, q 6 _ rfl⟩), (z1.t hW).a7⟩
   have mi0 : (0 : Int) ≤ (m : Int) := by omega
   have mi1 : (m : Int) < (n : Int) := by omega
   have mi2 : ((m : Int)).toNat = m := by omega
   have hmi := HMI.out
   by_cases hrl : rb < 0
   ·
    have v : decide (rb < 0) = true := by simpa using hrl
    have HLO2 := hid (HLO.out hrl)
    clear hat hcl hrb hrl HLO HHI z1
    go_wp2_with fail
    go_region_held3 (fun W => Below wr.heap.size wr W ∧ (W.cell? ⟨b, off + m * 7, none⟩ = some (.int .i64 yd) ∧ W.cell? ⟨b, off + m * 7 + 1, none⟩ = some (.int .i64 yp) ∧ W.cell? ⟨b, off + m * 7 + 2, none⟩ = some (.int .i64 ya) ∧ W.cell? ⟨b, off + m * 7 + 3, none⟩ = some (.int .i64 yr) ∧ W.cell? ⟨b, off + m * 7 + 4, none⟩ = some (.int .i64 yt) ∧ W.cell? ⟨b, off + m * 7 + 5, none⟩ = some (.int .i64 yk) ∧ W.cell? ⟨b, off + m * 7 + 6, none⟩ = some (.int .i64 ys)) ∧ (W.cell? ⟨w.heap.size, 0, none⟩ = some (.int .i64 xd) ∧ W.cell? ⟨w.heap.size, 1, none⟩ = some (.int .i64 xp) ∧ W.cell? ⟨w.heap.size, 2, none⟩ = some (.int .i64 xa) ∧ W.cell? ⟨w.heap.size, 3, none⟩ = some (.int .i64 xr) ∧ W.cell? ⟨w.heap.size, 4, none⟩ = some (.int .i64 xt) ∧ W.cell? ⟨w.heap.size, 5, none⟩ = some (.int .i64 xk) ∧ W.cell? ⟨w.heap.size, 6, none⟩ = some (.int .i64 xs))) (first | assumption | exact G.out _ (b0 _).drew | (exact sK G.out (by assumption) (by assumption)) | (exact sK G.out (by assumption) (bz1 _ _))) (first | (go_at_call 115; (with_reducible refine (KB.out _).mono ?_); rintro e w1 ⟨rfl, hb1⟩))
    all_goals
     have hbz := bT hbl (show Below wr.heap.size wr _ ∧ _ from by assumption).1
     go_wp2_with fail
     go_roundw
     case rel => exact ⟨m + 1, j, by omega, hjn, by go_num, rfl, HLO2.out, HB.out, hbz⟩
     case measure => simp [intOf]; omega
   ·
    have v : decide (rb < 0) = false := by simpa using hrl
    have HHI2 := hid (HHI.out hrl)
    clear hat hcl hrb hrl HLO HHI z1
    go_wp2_with fail
    go_region_held3 (fun W => Below wr.heap.size wr W ∧ (W.cell? ⟨b, off + m * 7, none⟩ = some (.int .i64 yd) ∧ W.cell? ⟨b, off + m * 7 + 1, none⟩ = some (.int .i64 yp) ∧ W.cell? ⟨b, off + m * 7 + 2, none⟩ = some (.int .i64 ya) ∧ W.cell? ⟨b, off + m * 7 + 3, none⟩ = some (.int .i64 yr) ∧ W.cell? ⟨b, off + m * 7 + 4, none⟩ = some (.int .i64 yt) ∧ W.cell? ⟨b, off + m * 7 + 5, none⟩ = some (.int .i64 yk) ∧ W.cell? ⟨b, off + m * 7 + 6, none⟩ = some (.int .i64 ys)) ∧ (W.cell? ⟨w.heap.size, 0, none⟩ = some (.int .i64 xd) ∧ W.cell? ⟨w.heap.size, 1, none⟩ = some (.int .i64 xp) ∧ W.cell? ⟨w.heap.size, 2, none⟩ = some (.int .i64 xa) ∧ W.cell? ⟨w.heap.size, 3, none⟩ = some (.int .i64 xr) ∧ W.cell? ⟨w.heap.size, 4, none⟩ = some (.int .i64 xt) ∧ W.cell? ⟨w.heap.size, 5, none⟩ = some (.int .i64 xk) ∧ W.cell? ⟨w.heap.size, 6, none⟩ = some (.int .i64 xs))) (first | assumption | exact G.out _ (b0 _).drew | (exact sK G.out (by assumption) (by assumption)) | (exact sK G.out (by assumption) (bz1 _ _))) (first | (go_at_call 115; (with_reducible refine (KB.out _).mono ?_); rintro e w1 ⟨rfl, hb1⟩))
    all_goals
     have hbz := bT hbl (show Below wr.heap.size wr _ ∧ _ from by assumption).1
     go_wp2_with fail
     go_roundw
     case rel => exact ⟨i, m, by omega, by omega, rfl, rfl, HA.out, HHI2.out, hbz⟩
     case measure => simp [intOf]; omega
  ·
   obtain rfl : i = j := by omega
   have HP : Hid (i = posO l ⟨xd, xp, xa, xr, xt, xk, xs⟩) := posO_of (by rw [← HL.out]; exact hjn) HA.out (fun k h1 h2 => Int.not_lt.2 (HB.out k h1 (by rw [HL.out]; exact h2)))
   by_cases hin : i < n
   case neg =>
    have vi : decide (i < n) = false := by simpa using hin
    go_wp2_with fail
    go_quiet (fail)
    go_wp2_with fail
    go_ret2
    exact ⟨⟨_, by rw [← HP.out]; rfl⟩, bD hB _⟩
   obtain ⟨b, off, rfl, hltb, hat⟩ := (HS.out.below hbl).2.2 (by omega)
   have hcl := hat i hin
   generalize l.getD i od0 = zz at *
   obtain ⟨yd, yp, ya, yr, yt, yk, ys⟩ := zz
   obtain ⟨rb, hrb⟩ : ∃ r, r = befI ⟨yd, yp, ya, yr, yt, yk, ys⟩ ⟨xd, xp, xa, xr, xt, xk, xs⟩ := ⟨_, rfl⟩
   have KB := hid (fun W => before_c yd yp ya yr yt yk ys xd xp xa xr xt xk xs W rb (hid hrb))
   have HC := hid hcl
   have hbb : b < wr.heap.size := hltb
   have z1 := z.t hbl
   have G : Hid (∀ W, Below wr.heap.size wr W → Below wr.heap.size wr W ∧ (W.cell? ⟨b, off + i * 7, none⟩ = some (.int .i64 yd) ∧ W.cell? ⟨b, off + i * 7 + 1, none⟩ = some (.int .i64 yp) ∧ W.cell? ⟨b, off + i * 7 + 2, none⟩ = some (.int .i64 ya) ∧ W.cell? ⟨b, off + i * 7 + 3, none⟩ = some (.int .i64 yr) ∧ W.cell? ⟨b, off + i * 7 + 4, none⟩ = some (.int .i64 yt) ∧ W.cell? ⟨b, off + i * 7 + 5, none⟩ = some (.int .i64 yk) ∧ W.cell? ⟨b, off + i * 7 + 6, none⟩ = some (.int .i64 ys)) ∧ (W.cell? ⟨w.heap.size, 0, none⟩ = some (.int .i64 xd) ∧ W.cell? ⟨w.heap.size, 1, none⟩ = some (.int .i64 xp) ∧ W.cell? ⟨w.heap.size, 2, none⟩ = some (.int .i64 xa) ∧ W.cell? ⟨w.heap.size, 3, none⟩ = some (.int .i64 xr) ∧ W.cell? ⟨w.heap.size, 4, none⟩ = some (.int .i64 xt) ∧ W.cell? ⟨w.heap.size, 5, none⟩ = some (.int .i64 xk) ∧ W.cell? ⟨w.heap.size, 6, none⟩ = some (.int .i64 xs))) := fun W hW => ⟨hW, (by
    have q := CellsAt.below HC.out hbb hW
    exact ⟨q 0 _ rfl, q 1 _ rfl, q 2 _ rfl, q 3 _ rfl, q 4 _ rfl, q 5 _ rfl, q 6 _ rfl⟩), (z1.t hW).a7⟩
   have mi0 : (0 : Int) ≤ (i : Int) := by omega
   have mi1 : (i : Int) < (n : Int) := by omega
   have mi2 : ((i : Int)).toNat = i := by omega
   have vi : decide (i < n) = true := by simpa using hin
   clear hat hcl hrb z1
   go_wp2_with fail
   go_region_held3 (fun W => Below wr.heap.size wr W ∧ (W.cell? ⟨b, off + i * 7, none⟩ = some (.int .i64 yd) ∧ W.cell? ⟨b, off + i * 7 + 1, none⟩ = some (.int .i64 yp) ∧ W.cell? ⟨b, off + i * 7 + 2, none⟩ = some (.int .i64 ya) ∧ W.cell? ⟨b, off + i * 7 + 3, none⟩ = some (.int .i64 yr) ∧ W.cell? ⟨b, off + i * 7 + 4, none⟩ = some (.int .i64 yt) ∧ W.cell? ⟨b, off + i * 7 + 5, none⟩ = some (.int .i64 yk) ∧ W.cell? ⟨b, off + i * 7 + 6, none⟩ = some (.int .i64 ys)) ∧ (W.cell? ⟨w.heap.size, 0, none⟩ = some (.int .i64 xd) ∧ W.cell? ⟨w.heap.size, 1, none⟩ = some (.int .i64 xp) ∧ W.cell? ⟨w.heap.size, 2, none⟩ = some (.int .i64 xa) ∧ W.cell? ⟨w.heap.size, 3, none⟩ = some (.int .i64 xr) ∧ W.cell? ⟨w.heap.size, 4, none⟩ = some (.int .i64 xt) ∧ W.cell? ⟨w.heap.size, 5, none⟩ = some (.int .i64 xk) ∧ W.cell? ⟨w.heap.size, 6, none⟩ = some (.int .i64 xs))) (first | assumption | exact G.out _ (b0 _).drew | (exact sK G.out (by assumption) (by assumption)) | (exact sK G.out (by assumption) (bz1 _ _))) (first | (go_at_call 115; (with_reducible refine (KB.out _).mono ?_); rintro e w1 ⟨rfl, hb1⟩))
   all_goals
    have hbz := bT hB (show Below wr.heap.size wr _ ∧ _ from by assumption).1
    go_wp2_with fail
    go_ret2
    exact ⟨⟨_, by rw [← HP.out]; rfl⟩, hbz⟩
end Go.Proofs.YtiaabmhjkoohmaaGreat
