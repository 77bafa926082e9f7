/-
 Contracts of a book's ways: Add, List, Clone, Cancel, Find. Conditions as named.
-/
import Derived.Test.YtiaabmhjkoohmaaGreatM2
import Derived.Deep.RegionWith
namespace Go.Proofs.YtiaabmhjkoohmaaGreat
set_option maxRecDepth 100000
set_option maxHeartbeats 25600000
set_option linter.unusedVariables false
set_option linter.unusedSimpArgs false
open Go.RowKit Tryz
open Lib (hid)
theorem grown_set {w W : World} (hb : Below w.heap.size w W) (p : Nat) (v : Value) : w.grownBy (W.setCell ⟨p, 0, none⟩ v) (some p) := by
 refine ⟨hb.os, hb.tape, hb.output, by simpa using hb.size, fun k hk hne => ?_⟩
 rw [heap_setCell_other W ⟨p, 0, none⟩ k v (fun h => hne (by rw [h]))]
 exact hb.block k hk
theorem grown_row {w W : World} (hb : Below w.heap.size w W) (row : Option Nat) : w.grownBy W row := grown_of_below hb row
theorem Blk.set1 {w : World} {g : Nat} {t : TypeId} {v : Value} (h : Blk w g t #[v]) (u : Value) : Blk (w.setCell ⟨g, 0, none⟩ u) g t #[u] := heap_setCell_same w g 0 #[v] t u h
def Bk (w : World) (p : Nat) (l : List Od) : Prop := ∃ v, Blk w p 143 #[v] ∧ OwnOd w 0 v l.length l
theorem Bk.grown {w w' : World} {p : Nat} {l : List Od} {row : Option Nat} (h : Bk w p l) (hg : w.grownBy w' row) (hp : some p ≠ row) (hr : ∀ v, OwnOd w 0 v l.length l → v.ownBlock = none ∨ v.ownBlock ≠ row) : Bk w' p l := by
 obtain ⟨v, h1, h2⟩ := h
 exact ⟨v, h1.grown hg hp, h2.1, h2.2.kept hg (hr v h2)⟩
theorem Bk.t {w w' : World} {p : Nat} {l : List Od} (h : Bk w p l) (hb : Below w.heap.size w w') : Bk w' p l := by
 obtain ⟨v, h1, h2⟩ := h
 exact ⟨v, h1.t hb, h2.below hb⟩
theorem Bk.lt {w : World} {p : Nat} {l : List Od} (h : Bk w p l) : p < w.heap.size := by
 obtain ⟨v, h1, h2⟩ := h
 exact h1.lt
theorem Bk.set {W : World} {p : Nat} {v u : Value} {l : List Od} {base : Nat} (h : Blk W p 143 #[v]) (ho : OwnOd W base u l.length l) (hb : p < base) : Bk (W.setCell ⟨p, 0, none⟩ u) p l := by
 refine ⟨u, h.set1 u, ho.1, (oM9 ho.2 (Nat.zero_le _)).kept (row := some p) (grown_set (b0 _) p u) (Or.inr fun he => ?_)⟩
 have := (ho.2.lt p he).1
 omega
def AddR (l : List Od) (z : Od) (p : Nat) (w : World) (e : Ending) (w' : World) : Prop := e = .returned (.int .i64 (addE l z)) ∧ Bk w' p (addL l z) ∧ w.grownBy w' (some p)
theorem badd_c (p : Nat) (l : List Od) (id pr am ra tt : Int) (w : World) (hb : Bk w p l) (hn : l.length ≤ 1000) (hso : SortO l) :
    Calls prog 74 #[.pointer (some ⟨p, 0, none⟩), .agg #[.int .i64 id, .int .i64 pr, .int .i64 am, .int .i64 ra, .int .i64 tt]] w (AddR l ⟨id, pr, am, ra, tt, 0, 0⟩ p w) := by
  have hb0 := bz1 w (.cells #[.int .i64 id, .int .i64 pr, .int .i64 am, .int .i64 ra, .int .i64 tt] 37)
  have hlt := hb.lt
  obtain ⟨v, hB, hO⟩ := hb
  obtain ⟨A, c, rfl, hnc, hs⟩ := hO.sl
  have x := Blk.mk w 37 #[.int .i64 id, .int .i64 pr, .int .i64 am, .int .i64 ra, .int .i64 tt]
  obtain ⟨q0, hq0⟩ : ∃ q, q = orE id pr am ra tt := ⟨_, rfl⟩
  have KC := hid (ocheck_c id pr am ra tt)
  rw [← hq0] at KC
  have HAE : Hid (addE l ⟨id, pr, am, ra, tt, 0, 0⟩ = if q0 ≠ 0 then q0 else if atO l id < l.length then 4 else if l.length = 8 then 2 else 0) := by unfold Hid addE; rw [hq0]
  have HB := hid hB
  have HO := hid hO
  have HS := hid hs
  obtain ⟨n, hnn⟩ : ∃ n, n = l.length := ⟨_, rfl⟩
  rw [← hnn] at HB HS HO HAE hnc hn
  have HN := hid hnn
  have HKEEP : Hid (∀ W, Below w.heap.size w W → addE l ⟨id, pr, am, ra, tt, 0, 0⟩ ≠ 0 → AddR l ⟨id, pr, am, ra, tt, 0, 0⟩ p w (.returned (.int .i64 (addE l ⟨id, pr, am, ra, tt, 0, 0⟩))) W) := fun W hW hne => by
    refine ⟨rfl, ?_, grown_row hW _⟩
    rw [addL, if_neg hne]
    exact Bk.t ⟨_, hB, hO⟩ hW
  clear hq0 hB hO hs hnn
  go_enter func74, ntmps74
  go_wp2_with fail
  refine (KC.out _).mono ?_
  rintro e w1 ⟨rfl, hb1⟩
  have hB1 := bT hb0 hb1
  by_cases hq : q0 = 0
  case neg =>
    have v : (q0 != 0) = true := by simpa using hq
    have e1 : addE l ⟨id, pr, am, ra, tt, 0, 0⟩ = q0 := by rw [HAE.out, if_pos hq]
    have HK := hid (HKEEP.out w1 hB1 (by rw [e1]; exact hq))
    rw [e1] at HK
    clear e1 hq
    go_wp2_with fail
    go_ret
    exact HK.out
  subst hq
  have HAE2 : Hid (addE l ⟨id, pr, am, ra, tt, 0, 0⟩ = if atO l id < n then 4 else if n = 8 then 2 else 0) := HAE.out.trans (if_neg (by simp))
  have d0 := (HB.out.t hB1).cell 0
  have x1 := (x.t hb1).cell 0
  have hx1 := (x.t hb1).lt
  have KH := hid (ohas_c A n c l w.heap.size id w1 (HS.out.below hB1) x1 hx1)
  clear HAE
  go_wp2_with fail
  refine KH.out.mono ?_
  rintro e w2 ⟨⟨h1, rfl⟩ | ⟨h1, rfl⟩, hb2⟩
  · have hB2 := bT hB1 hb2
    have e1 : addE l ⟨id, pr, am, ra, tt, 0, 0⟩ = 4 := by rw [HAE2.out, if_pos h1]
    have HK := hid (HKEEP.out w2 hB2 (by rw [e1]; decide))
    rw [e1] at HK
    clear e1 h1
    go_wp2_with fail
    go_ret
    exact HK.out
  have hB2 := bT hB1 hb2
  have HAE3 : Hid (addE l ⟨id, pr, am, ra, tt, 0, 0⟩ = if n = 8 then 2 else 0) := HAE2.out.trans (if_neg (by omega))
  have HAT := hid h1
  have d0 := (HB.out.t hB2).cell 0
  clear h1 x1 hx1
  by_cases h8 : n = 8
  · have v8 : ((n : Int) == 8) = true := by simp; omega
    have e1 : addE l ⟨id, pr, am, ra, tt, 0, 0⟩ = 2 := by rw [HAE3.out, if_pos h8]
    have HK := hid (HKEEP.out w2 hB2 (by rw [e1]; decide))
    rw [e1] at HK
    clear e1 h8
    go_wp2_with fail
    go_ret
    exact HK.out
  have v8 : ((n : Int) == 8) = false := by simp; omega
  have HAE4 : Hid (addE l ⟨id, pr, am, ra, tt, 0, 0⟩ = 0) := HAE3.out.trans (if_neg h8)
  obtain ⟨x0, x1, x2, x3, x4⟩ : w2.cell? ⟨w.heap.size, 0, none⟩ = some (.int .i64 id) ∧ w2.cell? ⟨w.heap.size, 1, none⟩ = some (.int .i64 pr) ∧ w2.cell? ⟨w.heap.size, 2, none⟩ = some (.int .i64 am) ∧ w2.cell? ⟨w.heap.size, 3, none⟩ = some (.int .i64 ra) ∧ w2.cell? ⟨w.heap.size, 4, none⟩ = some (.int .i64 tt) := ⟨((x.t hb1).t hb2).cell 0, ((x.t hb1).t hb2).cell 1, ((x.t hb1).t hb2).cell 2, ((x.t hb1).t hb2).cell 3, ((x.t hb1).t hb2).cell 4⟩
  have hsz2 := hB2.size
  have y := Blk.mk w2 213 #[.int .i64 id, .int .i64 pr, .int .i64 am, .int .i64 ra, .int .i64 tt, .int .i64 0, .int .i64 0]
  have hB3 := bA hB2 (.cells #[.int .i64 id, .int .i64 pr, .int .i64 am, .int .i64 ra, .int .i64 tt, .int .i64 0, .int .i64 0] 213)
  have G : Hid (∀ W, Below ((w2.alloc (.cells #[.int .i64 id, .int .i64 pr, .int .i64 am, .int .i64 ra, .int .i64 tt, .int .i64 0, .int .i64 0] 213))).heap.size (w2.alloc (.cells #[.int .i64 id, .int .i64 pr, .int .i64 am, .int .i64 ra, .int .i64 tt, .int .i64 0, .int .i64 0] 213)) W → Below ((w2.alloc (.cells #[.int .i64 id, .int .i64 pr, .int .i64 am, .int .i64 ra, .int .i64 tt, .int .i64 0, .int .i64 0] 213))).heap.size (w2.alloc (.cells #[.int .i64 id, .int .i64 pr, .int .i64 am, .int .i64 ra, .int .i64 tt, .int .i64 0, .int .i64 0] 213)) W ∧ W.cell? ⟨p, 0, none⟩ = some (.slice A n c) ∧ (W.cell? ⟨w2.heap.size, 0, none⟩ = some (.int .i64 id) ∧ W.cell? ⟨w2.heap.size, 1, none⟩ = some (.int .i64 pr) ∧ W.cell? ⟨w2.heap.size, 2, none⟩ = some (.int .i64 am) ∧ W.cell? ⟨w2.heap.size, 3, none⟩ = some (.int .i64 ra) ∧ W.cell? ⟨w2.heap.size, 4, none⟩ = some (.int .i64 tt) ∧ W.cell? ⟨w2.heap.size, 5, none⟩ = some (.int .i64 0) ∧ W.cell? ⟨w2.heap.size, 6, none⟩ = some (.int .i64 0)) ∧ OdSl W A n l) := fun W hW => ⟨hW, (HB.out.t (bT hB3 hW)).cell 0, (y.t hW).a7, HS.out.below (bT hB3 hW)⟩
  obtain ⟨ps, hps⟩ : ∃ q, q = posO l ⟨id, pr, am, ra, tt, 0, 0⟩ := ⟨_, rfl⟩
  have hpn : ps ≤ n := by rw [hps, HN.out]; exact posO_le _ _
  have HPS : Hid (insO l ⟨id, pr, am, ra, tt, 0, 0⟩ = l.take ps ++ ⟨id, pr, am, ra, tt, 0, 0⟩ :: l.drop ps) := by rw [hps]; rfl
  have KS : Hid (∀ W, OdSl W A n l → Calls prog 114 #[.slice A n c, .agg #[.int .i64 id, .int .i64 pr, .int .i64 am, .int .i64 ra, .int .i64 tt, .int .i64 0, .int .i64 0], .func (Fn.func 115) #[] #[]] W fun e w' => (∃ bb : Bool, e = .returned (.tuple #[.int .i64 ps, .bool bb])) ∧ Below W.heap.size W w') := fun W h => by
    rw [hps]; exact bsearch_c A n c l id pr am ra tt 0 0 W h hso (by omega)
  have KCL := hid (sclip_c A n c hnc (by omega) (fun hA => by
    obtain ⟨_, h2 | ⟨g', cap', cur, hv, _⟩⟩ := HO.out.2
    · have := h2.1; injection this
    · injection hv with hA' _ _; rw [hA] at hA'; cases hA'))
  have KI := hid (fun W vb h h2 => sinsert_c A n ps l ⟨id, pr, am, ra, tt, 0, 0⟩ vb W h hpn (by omega) h2 (insO l ⟨id, pr, am, ra, tt, 0, 0⟩) HPS)
  clear HKEEP HAE2 HAE3 h8 hps
  go_wp2_with fail
  go_region_held3 (fun W => Below ((w2.alloc (.cells #[.int .i64 id, .int .i64 pr, .int .i64 am, .int .i64 ra, .int .i64 tt, .int .i64 0, .int .i64 0] 213))).heap.size (w2.alloc (.cells #[.int .i64 id, .int .i64 pr, .int .i64 am, .int .i64 ra, .int .i64 tt, .int .i64 0, .int .i64 0] 213)) W ∧ W.cell? ⟨p, 0, none⟩ = some (.slice A n c) ∧ (W.cell? ⟨w2.heap.size, 0, none⟩ = some (.int .i64 id) ∧ W.cell? ⟨w2.heap.size, 1, none⟩ = some (.int .i64 pr) ∧ W.cell? ⟨w2.heap.size, 2, none⟩ = some (.int .i64 am) ∧ W.cell? ⟨w2.heap.size, 3, none⟩ = some (.int .i64 ra) ∧ W.cell? ⟨w2.heap.size, 4, none⟩ = some (.int .i64 tt) ∧ W.cell? ⟨w2.heap.size, 5, none⟩ = some (.int .i64 0) ∧ W.cell? ⟨w2.heap.size, 6, none⟩ = some (.int .i64 0)) ∧ OdSl W A n l)
    (first | assumption | exact G.out _ (b0 _).drew | (exact sK G.out (by assumption) (by assumption)) | (exact sK G.out (by assumption) (bz1 _ _)))
    (first | (go_at_call 114; (with_reducible refine (KS.out _ (show Below ((w2.alloc (.cells #[.int .i64 id, .int .i64 pr, .int .i64 am, .int .i64 ra, .int .i64 tt, .int .i64 0, .int .i64 0] 213))).heap.size (w2.alloc (.cells #[.int .i64 id, .int .i64 pr, .int .i64 am, .int .i64 ra, .int .i64 tt, .int .i64 0, .int .i64 0] 213)) _ ∧ _ ∧ _ ∧ OdSl _ _ _ _ from by assumption).2.2.2).mono ?_); rintro e w4 ⟨⟨bb, rfl⟩, hb4⟩))
  all_goals
    obtain ⟨hW4, d0, ⟨y0, y1, y2, y3, y4, y5, y6⟩, hs4⟩ := (show Below ((w2.alloc (.cells #[.int .i64 id, .int .i64 pr, .int .i64 am, .int .i64 ra, .int .i64 tt, .int .i64 0, .int .i64 0] 213))).heap.size (w2.alloc (.cells #[.int .i64 id, .int .i64 pr, .int .i64 am, .int .i64 ra, .int .i64 tt, .int .i64 0, .int .i64 0] 213)) _ ∧ _ ∧ (_ ∧ _ ∧ _ ∧ _ ∧ _ ∧ _ ∧ _) ∧ OdSl _ A n l from by assumption)
    have hB4 := bT hB3 hW4
    have HS4 := hid hs4
    clear hs4
    have hsz4 := hB4.size
    have HFIN : Hid (∀ W w' A5 k c5, Below w4.heap.size w4 W → Below W.heap.size W w' → OwnOd w' W.heap.size (.slice A5 k c5) (n + 1) (insO l ⟨id, pr, am, ra, tt, 0, 0⟩) → AddR l ⟨id, pr, am, ra, tt, 0, 0⟩ p w (.returned (.int .i64 0)) (w'.setCell ⟨p, 0, none⟩ (.slice A5 k c5))) := fun W w' A5 k c5 h1 h2 ho => by
      have hBB := bT (bT hB4 h1) h2
      refine ⟨by rw [HAE4.out], ?_, grown_set hBB p _⟩
      rw [addL, if_pos HAE4.out]
      have e : n + 1 = (insO l ⟨id, pr, am, ra, tt, 0, 0⟩).length := ho.1
      rw [e] at ho
      exact Bk.set (HB.out.t hBB) ho (by have := h1.size; omega)
    have hp4 : p < w4.heap.size := by omega
    have hp5 : ¬ p = w4.heap.size := by omega
    have hp6 : ¬ w4.heap.size = p := by omega
    have HBK : Hid (∀ W w', Below w4.heap.size w4 W → Below W.heap.size W w' → (w'.cell? ⟨p, 0, none⟩ = some (.slice A n c) ∧ w'.frozen? ⟨p, 0, none⟩ = false) ∧ Below w.heap.size w w') := fun W w' h1 h2 => by
      have hBB := bT (bT hB4 h1) h2
      exact ⟨⟨(HB.out.t hBB).cell 0, (HB.out.t hBB).free 0⟩, hBB⟩
    go_wp2_with fail
    go_region_with (first
      | (go_at_call 117; (with_reducible refine (KCL.out _).mono ?_); rintro e w5 ⟨rfl, rfl⟩)
      | (go_at_call 116; refine (KI.out _ _ (HS4.out.below (bA (bD (b0 _) 1) _)) (Blk.mk _ _ _)).mono ?_; rintro e w5 ⟨⟨v5, rfl, ho5⟩, hb5⟩; obtain ⟨A5, c5, rfl⟩ := oL9 ho5.2; have HO5 := hid (HFIN.out _ _ _ _ _ (bA (bD (b0 _) 1) _) hb5 ho5); clear ho5; obtain ⟨⟨q0, q1⟩, hB5⟩ := HBK.out _ _ (bA (bD (b0 _) 1) _) hb5))
    all_goals
      go_wp2_with fail
      go_ret
      exact (show Hid (AddR l ⟨id, pr, am, ra, tt, 0, 0⟩ p w _ _) from by assumption).out
end Go.Proofs.YtiaabmhjkoohmaaGreat
