/-
  Contracts of a book's Sweep, and of Owed. Conditions as named.
-/
import Derived.Test.YtfhbnojhmeodiaaDoorBook8
namespace Go.Proofs.YtfhbnojhmeodiaaDoor
set_option linter.unusedVariables false
open Go.RowKit
theorem below_kp {w w1 w2 : World} {N : Nat} {X : Nat → Prop} (hb : Below w.heap.size w w1) (hk : Kp N X w1 w2) (hN : w.heap.size ≤ N) (hX : ∀ k, k < w.heap.size → ¬ X k) : Below w.heap.size w w2 :=
  ⟨hk.os.trans hb.os, hk.tape.trans hb.tape, hk.output.trans hb.output, Nat.le_trans hb.size hk.size, fun k hk' => (hk.block k (by omega) (hX k hk')).trans (hb.block k hk')⟩
def OwnN (w : World) (base : Nat) (v : Value) (xs : List Int) : Prop := w.ownsRow base 3 1 v xs.length (xs.map (.int .i64))
def SweepR (l : List Od) (p : Nat) (w : World) (e : Ending) (w' : World) : Prop := (∃ v, e = .returned v ∧ OwnN w' w.heap.size v (sweepI l)) ∧ Bk w' p (sweepL l) ∧ w.grownBy w' (some p)
set_option maxRecDepth 100000 in
set_option maxHeartbeats 3200000 in
theorem bsweep_c (p : Nat) (l : List Od) (w : World) (hb : Bk w p l) (hn : l.length ≤ 1000) : Calls Tryd.prog 26 #[.pointer (some ⟨p, 0, none⟩)] w (SweepR l p w) := by
  have hlt := hb.lt
  have hb0 := below1 w (.cells #[.slice none 0 0] 63)
  have hbk := hb.t hb0
  obtain ⟨A, c, hB, hnc, hs, hO⟩ := hbk.sl
  have K := Lib.hid (sclone_c A l.length c l (w.alloc (.cells #[.slice none 0 0] 63)) hs (by omega))
  have y := Blk.mk w 63 #[.slice none 0 0]
  have HY := Lib.hid y
  have d0 := hB.cell 0
  have HB := Lib.hid hB
  clear hs hO hb hB hbk y
  go_enter Tryd.func26, Tryd.ntmps26
  go_wp2_with fail
  refine K.out.mono ?_
  rintro e w1 ⟨⟨v, rfl, ho⟩, hb1⟩
  obtain ⟨A5, c5, rfl⟩ := own_slice ho.2
  have hbt := bT hb0 hb1
  have hw0 : ((w.alloc (.cells #[.slice none 0 0] 63))).heap.size = w.heap.size + 1 := by simp
  rw [hw0] at ho
  have hOI : OutI w1 w.heap.size w1.heap.size [] := ⟨by have := hb1.size; omega, _, HY.out.t hb1, World.ownsRow_nil _ _ _ _⟩
  have hlts := ho.2.lt
  have KD := Lib.hid (sdelete_c A5 l.length c5 l (w.heap.size + 1) w.heap.size w1.heap.size w1 ho (fun g hg => ⟨(hlts g hg).2, by have := (hlts g hg).1; omega⟩) hOI (Nat.le_refl _) (by omega))
  have hAX : ∀ k, k < w.heap.size → ¬ (k = w.heap.size ∨ A5 = some ⟨k, 0, none⟩) := fun k hk h => by
    rcases h with h | h
    · omega
    · subst h
      have := (hlts k rfl).1
      omega
  have HAX := Lib.hid hAX
  have HBT := Lib.hid hbt
  have hq1 := HB.out.t hb1
  have HQ := Lib.hid hq1
  have hsz1 := hb1.size
  clear ho hOI hlts hAX
  go_wp2_with fail
  refine KD.out.mono ?_
  rintro e w2 ⟨⟨v2, rfl, ho2, _⟩, ho3, hk⟩
  obtain ⟨A6, c6, rfl⟩ := own_slice ho2.2
  have hq2 := HQ.out.kp hk (by omega) (HAX.out p hlt)
  have q0 := hq2.cell 0
  have q1 := hq2.free 0
  obtain ⟨v3, h4, h5⟩ := ho3.v
  have r0 := h4.cell 0
  have hpg : ¬ p = w.heap.size := by omega
  have hgp : ¬ w.heap.size = p := by omega
  have HBW : Hid (Below w.heap.size w w2) := below_kp HBT.out hk (by omega) HAX.out
  have HQ2 := Lib.hid hq2
  have HO2 := Lib.hid ho2
  have H5 := Lib.hid h5
  have HLT := Lib.hid ho3.lt
  clear hk ho2 ho3 h4 h5 hq2 hq1
  go_wp2_with fail
  go_ret
  refine ⟨⟨_, rfl, ?_⟩, Bk.set HQ2.out HO2.out (by omega), grown_set HBW.out p _⟩
  exact own_more (H5.out.kept (row := some p) (grown_set (b0 _) p _) (Or.inr fun he => by have := (H5.out.lt p he).1; omega)) (by omega)
--%%
theorem subO_t (x y : Int) (w : World) (hx : mrB x = true) (hy : mrB y = true) (hs : mrB (x - y) = true) :
    Calls Tryd.prog 53 #[.int .i64 x, .int .i64 y] w fun e w' => e = .returned (.tuple #[.int .i64 (x - y), .int .i64 0]) ∧ Below w.heap.size w w' := by
  have hx' := mr_iff.1 hx
  have hy' := mr_iff.1 hy
  go_enter Tryd.func53, Tryd.ntmps53
  go_wp2_with (first | (go_at_call 37; refine (right2 _ _ _ x y _ (by simp) (by simp)).mono ?_; rintro e w' ⟨rfl, rfl⟩) | (go_at_call 62; refine (check_t (x - y) _ hs).mono ?_; rintro e w1 ⟨rfl, hb⟩))
  go_ret2
  exact ⟨rfl, (below1 _ _).trans (hb.mono (by simp))⟩
theorem subO_f (x y : Int) (w : World) (h : ¬ (mrB x = true ∧ mrB y = true ∧ mrB (x - y) = true)) :
    Calls Tryd.prog 53 #[.int .i64 x, .int .i64 y] w fun e w' => e = .returned (.tuple #[.int .i64 0, .int .i64 10]) ∧ Below w.heap.size w w' := by
  by_cases hx : (mrB x && mrB y) = true
  · have hx1 : mrB x = true := by simp at hx; exact hx.1
    have hy1 : mrB y = true := by simp at hx; exact hx.2
    have hs : mrB (x - y) = false := by
      cases hh : mrB (x - y) with
      | false => rfl
      | true => exact absurd ⟨hx1, hy1, hh⟩ h
    have hx' := mr_iff.1 hx1
    have hy' := mr_iff.1 hy1
    clear h
    go_enter Tryd.func53, Tryd.ntmps53
    go_wp2_with (first | (go_at_call 37; refine (right2 _ _ _ x y _ (by simp) (by simp)).mono ?_; rintro e w' ⟨rfl, rfl⟩) | (go_at_call 62; refine (check_f (x - y) _ hs).mono ?_; rintro e w1 ⟨rfl, hb⟩))
    go_ret2
    exact ⟨rfl, (below1 _ _).trans (hb.mono (by simp))⟩
  · have hx1 : (mrB x && mrB y) = false := by simpa using hx
    clear h hx
    go_enter Tryd.func53, Tryd.ntmps53
    go_wp2_with (go_at_call 37; refine (right2 _ _ _ x y _ (by simp) (by simp)).mono ?_; rintro e w' ⟨rfl, rfl⟩)
    go_ret2
    exact ⟨rfl, below1 _ _⟩
theorem mr_zero : mrB 0 = true := by decide
/-- all totals and all that was taken may be, or are told -/
def OwedR (l : List Od) (w : World) (e : Ending) (w' : World) : Prop := e = .returned (.tuple #[.int .i64 (owedV l).s, .int .i64 (owedV l).n, .int .i64 (owedV l).e]) ∧ Below w.heap.size w w'
set_option maxHeartbeats 3200000 in
theorem bowed_c (p : Nat) (l : List Od) (w : World) (hb : Bk w p l) (hn : l.length ≤ 1000) : Calls Tryd.prog 25 #[.pointer (some ⟨p, 0, none⟩)] w (OwedR l w) := by
  obtain ⟨A, c, hB, hnc, hs, hO⟩ := hb.sl
  obtain ⟨n, hnn⟩ : ∃ n, n = l.length := ⟨_, rfl⟩
  rw [← hnn] at hB hs hnc hn
  have HS := Lib.hid hs
  have HL := Lib.hid hnn
  have hm9 := hs.2.1
  have d0 := hB.cell 0
  have HST : Hid (∀ k, owedT l (k + 1) = owStep (owedT l k) (l.getD k od0)) := fun k => rfl
  have HSK : Hid (∀ k W, k ≤ n → (owedT l k).e ≠ 0 → Below w.heap.size w W → OwedR l w (.returned (.tuple #[.int .i64 (owedT l k).s, .int .i64 (owedT l k).n, .int .i64 (owedT l k).e])) W) := fun k W hk h hW => by
    have e := owedT_stick l k h n hk
    unfold OwedR owedV
    rw [← HL.out, e]
    exact ⟨rfl, hW⟩
  clear hs hO hb hB hnn
  go_enter Tryd.func25, Tryd.ntmps25
  go_wp2_with fail
  go_loopw [5, 6, 16] (fun cs co ci wr => ∃ k : Nat, ∃ s m : Int, k ≤ n ∧ ci = .int .i64 k ∧ cs = .int .i64 s ∧ co = .int .i64 m ∧ Hid (owedT l k = ⟨0, s, m⟩) ∧ (0 ≤ m ∧ m ≤ k) ∧ Below w.heap.size w wr) (fun _ _ ci _ => n - (intOf ci).toNat)
  case atStart => exact ⟨0, 0, 0, Nat.zero_le _, rfl, rfl, rfl, rfl, by omega, b0 _⟩
  case round =>
    obtain ⟨k, s, m, hk', rfl, rfl, rfl, HV, hm, hbl⟩ := hrel
    by_cases hk : k < n
    case neg =>
      obtain rfl : k = n := by omega
      have HF : Hid (OwedR l w (.returned (.tuple #[.int .i64 s, .int .i64 m, .int .i64 0])) wr) := by
        unfold Hid OwedR owedV
        rw [← HL.out, HV.out]
        exact ⟨rfl, hbl⟩
      go_wp2_with fail
      go_ret3
      exact HF.out
    obtain ⟨b, off, rfl, hltb, hat⟩ := (HS.out.below hbl).2.2 (by omega)
    have hcl := hat k hk
    have HS1 := Lib.hid (HST.out k)
    rw [HV.out] at HS1
    have HER := Lib.hid (HSK.out (k + 1))
    generalize l.getD k od0 = zz at *
    obtain ⟨id, pr, am, ra, tt, tk, ar⟩ := zz
    obtain ⟨c0, c1, c2, c3, c4, c5, c6⟩ : wr.cell? ⟨b, off + k * 7, none⟩ = some (.int .i64 id) ∧ wr.cell? ⟨b, off + k * 7 + 1, none⟩ = some (.int .i64 pr) ∧ wr.cell? ⟨b, off + k * 7 + 2, none⟩ = some (.int .i64 am) ∧ wr.cell? ⟨b, off + k * 7 + 3, none⟩ = some (.int .i64 ra) ∧ wr.cell? ⟨b, off + k * 7 + 4, none⟩ = some (.int .i64 tt) ∧ wr.cell? ⟨b, off + k * 7 + 5, none⟩ = some (.int .i64 tk) ∧ wr.cell? ⟨b, off + k * 7 + 6, none⟩ = some (.int .i64 ar) := ⟨hcl 0 _ rfl, hcl 1 _ rfl, hcl 2 _ rfl, hcl 3 _ rfl, hcl 4 _ rfl, hcl 5 _ rfl, hcl 6 _ rfl⟩
    have hb2 := bA hbl (.cells #[.int .i64 id, .int .i64 pr, .int .i64 am, .int .i64 ra, .int .i64 tt, .int .i64 tk, .int .i64 ar] 39)
    have HB2 := Lib.hid hb2
    obtain ⟨m1, m2⟩ := hm
    clear hcl hat
    unfold owStep at HS1
    rw [if_neg (by simp)] at HS1
    dsimp only at HS1
    by_cases h0 : tt = 0
    · have HS2 := Lib.hid (HS1.out.trans (if_pos h0))
      have v0 : (tt == 0) = true := by simpa using h0
      have hw1 : IntKind.i64.wrap (m + 1) = m + 1 := IntWalk.i64_in _ (by omega)
      clear HS1 h0
      go_wp2_with fail
      go_roundw
      case rel => exact ⟨k + 1, s, m + 1, by omega, by go_num, rfl, rfl, HS2.out, by omega, HB2.out⟩
      case measure => simp [intOf]; omega
    have v0 : (tt == 0) = false := by simpa using h0
    have HS2 := Lib.hid (HS1.out.trans (if_neg h0))
    clear HS1 h0
    by_cases h1 : mrB tt = true ∧ mrB tk = true ∧ mrB (tt - tk) = true
    case neg =>
      have HS3 := Lib.hid (HS2.out.trans (if_pos h1))
      have KA := Lib.hid (fun W => subO_f tt tk W h1)
      have HF : Hid (∀ W, Below w.heap.size w W → OwedR l w (.returned (.tuple #[.int .i64 0, .int .i64 0, .int .i64 10])) W) := fun W hW => by
        have := HER.out W (by omega) (by rw [HS3.out]; decide) hW
        rw [HS3.out] at this; exact this
      clear h1 HS2
      go_wp2_with fail
      refine (KA.out _).mono ?_
      rintro e w2 ⟨rfl, hb3⟩
      have hb4 := bT HB2.out hb3
      go_wp2_with fail
      go_ret3
      exact HF.out _ hb4
    have KA := Lib.hid (fun W => subO_t tt tk W h1.1 h1.2.1 h1.2.2)
    have HS3 := Lib.hid (HS2.out.trans (if_neg (fun h => h h1)))
    clear HS2
    obtain ⟨mx, hmx⟩ : ∃ x, x = max 0 (tt - tk) := ⟨_, rfl⟩
    have HMX : Hid (max 0 (tt - tk) = mx) := hmx.symm
    rw [HMX.out] at HS3
    obtain ⟨s1, s2⟩ := mr_iff.1 h1.2.2
    clear hmx
    by_cases h2 : mrB s = true ∧ mrB mx = true ∧ mrB (s + mx) = true
    case neg =>
      have HS4 := Lib.hid (HS3.out.trans (if_pos h2))
      have KB := Lib.hid (fun W => add_f s mx W h2)
      have HF : Hid (∀ W, Below w.heap.size w W → OwedR l w (.returned (.tuple #[.int .i64 0, .int .i64 0, .int .i64 10])) W) := fun W hW => by
        have := HER.out W (by omega) (by rw [HS4.out]; decide) hW
        rw [HS4.out] at this; exact this
      clear h2 HS3 h1
      go_wp2_with fail
      refine (KA.out _).mono ?_
      rintro e w2 ⟨rfl, hb3⟩
      have hb4 := bT HB2.out hb3
      go_wp2_with fail
      rw [HMX.out]
      refine (KB.out _).mono ?_
      rintro e w3 ⟨rfl, hb5⟩
      have hb6 := bT hb4 hb5
      go_wp2_with fail
      go_ret3
      exact HF.out _ hb6
    have HS4 := Lib.hid (HS3.out.trans (if_neg (fun h => h h2)))
    have KB := Lib.hid (fun W => add_t s mx W h2.1 h2.2.1 h2.2.2)
    clear h2 HS3 h1
    go_wp2_with fail
    refine (KA.out _).mono ?_
    rintro e w2 ⟨rfl, hb3⟩
    have hb4 := bT HB2.out hb3
    go_wp2_with fail
    rw [HMX.out]
    refine (KB.out _).mono ?_
    rintro e w3 ⟨rfl, hb5⟩
    have hb6 := bT hb4 hb5
    go_wp2_with fail
    go_roundw
    case rel => exact ⟨k + 1, s + mx, m, by omega, by go_num, rfl, rfl, HS4.out, by omega, hb6⟩
    case measure => simp [intOf]; omega
--%%
end Go.Proofs.YtfhbnojhmeodiaaDoor
