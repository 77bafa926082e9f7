/-
  Contract of social.Rates, for one band. Conditions as named.
-/
import Derived.Test.YtpheeblpfcipaaaSoc5
import Derived.Deep.RegionHeld3
namespace Go.Proofs.Ytpheeblpfcipaaa
set_option linter.unusedVariables false
open Go.RowKit
--%%
set_option maxRecDepth 100000 in
set_option maxHeartbeats 1600000 in
theorem rates1_c (nm : ByteArray) (base pc yc rd : Int) (bd : Bd) (b off : Nat) (c : Nat) (x ah : Int) (w : World) (h : BandSl w (some ⟨b, off, none⟩) 1 [bd]) (hl : bandsErr [bd] = 0) (hyc : 0 ≤ yc ∧ yc ≤ 100000000000) (hx : mrB x = true) (ha : mrB ah = true) (hx0 : 0 ≤ x)
    (hne : (underI pc yc (x + 1) ah == underI pc yc x ah) = false) :
    Calls Try.prog 21 #[.agg #[.string nm, .int .i64 base, .slice (some ⟨b, off, none⟩) 1 c, .int .i64 pc, .int .i64 yc, .int .i64 rd], .int .i64 x, .int .i64 ah] w fun e w' => e = .returned (.tuple #[.int .i64 bd.r, .int .i64 bd.e, .int .i64 0]) ∧ Below w.heap.size w w' := by
  have hx' := mr_iff.1 hx
  have ha' := mr_iff.1 ha
  have KU := Lib.hid (fun y W => under_c nm base pc yc rd (some ⟨b, off, none⟩) 1 c y ah W (by omega) (by omega))
  have HB := Lib.hid h
  have HL := Lib.hid hl.symm
  have z := Blk.mk w 31 #[.string nm, .int .i64 base, .slice (some ⟨b, off, none⟩) 1 c, .int .i64 pc, .int .i64 yc, .int .i64 rd]
  have hb0 := below1 w (.cells #[.string nm, .int .i64 base, .slice (some ⟨b, off, none⟩) 1 c, .int .i64 pc, .int .i64 yc, .int .i64 rd] 31)
  clear h hl
  go_enter Try.func21, Try.ntmps21
  go_wp2_with fail
  refine (bcheck_c [bd] (some ⟨b, off, none⟩) 1 c _ (HB.out.below hb0) 0 HL).mono ?_
  rintro e w1 ⟨rfl, hb1⟩
  have z1 := z.t hb1
  have hb2 := bT hb0 hb1
  go_wp2_with fail
  refine (right2 _ _ _ x ah _ (by simp) (by simp)).mono ?_
  rw [hx, ha]
  rintro e w' ⟨rfl, rfl⟩
  have z2 := z1.alloc (.cells #[.int .i64 x, .int .i64 ah] 2)
  have hb3 := bA hb2 (.cells #[.int .i64 x, .int .i64 ah] 2)
  have e1 : IntKind.i64.wrap (x + 1) = x + 1 := by rw [IntKind.wrap_i64]; omega
  have ed : decide (x < 0) = false := by simp; omega
  go_wp2_with fail
  generalize hW : w1.alloc (.cells #[.int .i64 x, .int .i64 ah] 2) = w2 at *
  clear hW
  have G : Hid (∀ W, Below w2.heap.size w2 W → Below w2.heap.size w2 W ∧ W.cell? ⟨w.heap.size, 0, none⟩ = some (.string nm) ∧ W.cell? ⟨w.heap.size, 1, none⟩ = some (.int .i64 base) ∧ W.cell? ⟨w.heap.size, 2, none⟩ = some (.slice (some ⟨b, off, none⟩) 1 c) ∧ W.cell? ⟨w.heap.size, 3, none⟩ = some (.int .i64 pc) ∧ W.cell? ⟨w.heap.size, 4, none⟩ = some (.int .i64 yc) ∧ W.cell? ⟨w.heap.size, 5, none⟩ = some (.int .i64 rd)) := fun W hW => ⟨hW, (z2.t hW).cell 0, (z2.t hW).cell 1, (z2.t hW).cell 2, (z2.t hW).cell 3, (z2.t hW).cell 4, (z2.t hW).cell 5⟩
  go_region_held3 (fun W => Below w2.heap.size w2 W ∧ W.cell? ⟨w.heap.size, 0, none⟩ = some (.string nm) ∧ W.cell? ⟨w.heap.size, 1, none⟩ = some (.int .i64 base) ∧ W.cell? ⟨w.heap.size, 2, none⟩ = some (.slice (some ⟨b, off, none⟩) 1 c) ∧ W.cell? ⟨w.heap.size, 3, none⟩ = some (.int .i64 pc) ∧ W.cell? ⟨w.heap.size, 4, none⟩ = some (.int .i64 yc) ∧ W.cell? ⟨w.heap.size, 5, none⟩ = some (.int .i64 rd))
    (first | assumption | exact G.out _ (b0 _).drew | (exact sK G.out (by assumption) (by assumption)))
    (first | (go_at_call 31; (with_reducible refine (KU.out _ _).mono ?_); rintro e w6 ⟨rfl, hb6⟩))
  have hB := (show Below w2.heap.size w2 _ ∧ _ from by assumption).1
  clear G
  have hb4 := bT hb3 hB
  have z3 := z2.t hB
  have hc := (HB.out.below hb4).2.2
  obtain ⟨b', off', hA, hlt, hat⟩ := hc (by decide)
  injection hA with hA
  injection hA with h1 h2 _
  subst h1
  subst h2
  obtain ⟨c0, c1, c2⟩ := hat 0 (by simp)
  simp only [Nat.zero_mul, Nat.add_zero] at c0 c1 c2
  rw [show [bd].getD 0 bd0 = bd from rfl] at c0 c1 c2
  have KF := Lib.hid (fun W => find1_c (x + 1) (some ⟨b, off, none⟩) c W)
  obtain ⟨bf, br, be⟩ := bd
  dsimp only at c0 c1 c2
  clear hat hc
  go_wp2_with fail
  have hw6 := hb4.size
  have G : Hid (∀ W, Below w6.heap.size w6 W → Below w6.heap.size w6 W ∧ W.cell? ⟨w.heap.size, 2, none⟩ = some (.slice (some ⟨b, off, none⟩) 1 c) ∧ W.cell? ⟨b, off, none⟩ = some (.int .i64 bf) ∧ W.cell? ⟨b, off + 1, none⟩ = some (.int .i64 br) ∧ W.cell? ⟨b, off + 2, none⟩ = some (.int .i64 be)) := fun W hW => ⟨hW, (z3.t hW).cell 2, (hW.cell (p := ⟨b, off, none⟩) hlt).trans c0, (hW.cell (p := ⟨b, off + 1, none⟩) hlt).trans c1, (hW.cell (p := ⟨b, off + 2, none⟩) hlt).trans c2⟩
  go_region_held3 (fun W => Below w6.heap.size w6 W ∧ W.cell? ⟨w.heap.size, 2, none⟩ = some (.slice (some ⟨b, off, none⟩) 1 c) ∧ W.cell? ⟨b, off, none⟩ = some (.int .i64 bf) ∧ W.cell? ⟨b, off + 1, none⟩ = some (.int .i64 br) ∧ W.cell? ⟨b, off + 2, none⟩ = some (.int .i64 be))
    (first | assumption | exact G.out _ (b0 _).drew | (exact sK G.out (by assumption) (by assumption)) | (exact sK G.out (by assumption) (below1 _ _)) | exact G.out _ (bA (b0 _) _).drew)
    (first | (go_at_call 36; (with_reducible refine (KF.out _).mono ?_); rintro e w8 ⟨rfl, rfl⟩))
  all_goals
    have hb5 := bT hb4 (show Below w6.heap.size w6 _ ∧ _ from by assumption).1
    go_wp2_with fail
    go_quiet (fail)
    go_wp2_with fail
    go_ret3
    exact ⟨rfl, ⟨hb5.os, hb5.tape, hb5.output, hb5.size, hb5.block⟩⟩
--%%
end Go.Proofs.Ytpheeblpfcipaaa
