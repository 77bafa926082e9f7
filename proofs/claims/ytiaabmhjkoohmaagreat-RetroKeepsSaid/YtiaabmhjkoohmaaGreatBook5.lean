/-
 Contracts of a book's ways: List, Clone, Cancel, Find. Conditions as named.
-/
import Derived.Test.YtiaabmhjkoohmaaGreatBook4
namespace Go.Proofs.YtiaabmhjkoohmaaGreat
set_option maxRecDepth 100000
set_option maxHeartbeats 25600000
set_option linter.unusedVariables false
set_option linter.unusedSimpArgs false
open Go.RowKit Tryz
open Lib (hid)
theorem Bk.sl {w : World} {p : Nat} {l : List Od} (h : Bk w p l) : ∃ A c, Blk w p 143 #[.slice A l.length c] ∧ l.length ≤ c ∧ OdSl w A l.length l ∧ OwnOd w 0 (.slice A l.length c) l.length l := by
 obtain ⟨v, hB, hO⟩ := h
 obtain ⟨A, c, rfl, hnc, hs⟩ := hO.sl
 exact ⟨A, c, hB, hnc, hs, hO⟩
theorem blist_c (p : Nat) (l : List Od) (w : World) (hb : Bk w p l) (hn : l.length ≤ 1000) : Calls prog 149 #[.pointer (some ⟨p, 0, none⟩)] w (GivesOd l.length l w) := by
 obtain ⟨A, c, hB, hnc, hs, hO⟩ := hb.sl
 have K := hid (sclone_c A l.length c l w hs (by omega))
 have d0 := hB.cell 0
 clear hs hO hb hB
 go_enter func149, ntmps149
 go_wp2_with fail
 refine K.out.mono ?_
 rintro e w1 ⟨⟨v, rfl, ho⟩, hb1⟩
 have HO := hid ho
 clear ho
 go_wp2_with fail
 go_ret
 exact ⟨⟨_, rfl, HO.out⟩, hb1⟩
def BkCloneR (l : List Od) (w : World) (e : Ending) (w' : World) : Prop := (∃ q, e = .returned (.pointer (some ⟨q, 0, none⟩)) ∧ w.heap.size ≤ q ∧ Bk w' q l) ∧ Below w.heap.size w w'
theorem bclone_c (p : Nat) (l : List Od) (w : World) (hb : Bk w p l) (hn : l.length ≤ 1000) : Calls prog 91 #[.pointer (some ⟨p, 0, none⟩)] w (BkCloneR l w) := by
 obtain ⟨A, c, hB, hnc, hs, hO⟩ := hb.sl
 have K := hid (sclone_c A l.length c l w hs (by omega))
 have d0 := hB.cell 0
 clear hs hO hb hB
 go_enter func91, ntmps91
 go_wp2_with fail
 refine K.out.mono ?_
 rintro e w1 ⟨⟨v, rfl, ho⟩, hb1⟩
 obtain ⟨A5, c5, rfl⟩ := oL9 ho.2
 have HO := hid ho
 have hsz := hb1.size
 clear ho
 go_wp2_with fail
 go_ret
 exact ⟨⟨_, rfl, hsz, ⟨_, Blk.mk _ _ _, HO.out.1, oM9 (oB9 HO.out.2 (bz1 _ _)) (Nat.zero_le _)⟩⟩, bA hb1 _⟩
def CanR (l : List Od) (q : Int) (p : Nat) (w : World) (e : Ending) (w' : World) : Prop := e = .returned (.int .i64 (canE l q)) ∧ Bk w' p (if canE l q = 0 then cutO l q else l) ∧ w.grownBy w' (some p)
theorem bcancel_c (p : Nat) (l : List Od) (q : Int) (w : World) (hb : Bk w p l) (hn : l.length ≤ 1000) :
    Calls prog 75 #[.pointer (some ⟨p, 0, none⟩), .int .i64 q] w (CanR l q p w) := by
  have hb0 := bz1 w (.cells #[.int .i64 q] 3)
  have hlt := hb.lt
  have HBK := hid hb
  obtain ⟨A, c, hB, hnc, hs, hO⟩ := hb.sl
  have HB := hid hB
  have HS := hid hs
  have x := Blk.mk w 3 #[.int .i64 q]
  obtain ⟨n, hnn⟩ : ∃ n, n = l.length := ⟨_, rfl⟩
  rw [← hnn] at HB HS hnc hn
  have HN := hid hnn
  have KX := hid (oidx2_c A n c l w.heap.size q _ (HS.out.below hb0) (x.cell 0) x.lt)
  have hq0 := (HB.out.t hb0).cell 0
  clear hb hB hs hO hnn
  go_enter func75, ntmps75
  go_wp2_with fail
  refine KX.out.mono ?_
  rintro e w1 ⟨⟨h1, rfl⟩ | ⟨h1, rfl⟩, hb1⟩
  case inr =>
    have hB1 := bT hb0 hb1
    have e1 : canE l q = 3 := by unfold canE; rw [if_neg (by rw [← HN.out]; omega)]
    have HF : Hid (CanR l q p w (.returned (.int .i64 3)) w1) := ⟨by rw [e1], by rw [if_neg (by rw [e1]; decide)]; exact HBK.out.t hB1, grown_row hB1 _⟩
    clear h1 e1
    go_wp2_with fail
    go_ret
    exact HF.out
  have hB1 := bT hb0 hb1
  have hsz1 := hB1.size
  obtain ⟨a, ha⟩ : ∃ a, a = atO l q := ⟨_, rfl⟩
  rw [← ha] at h1 ⊢
  have e1 : canE l q = 0 := by unfold canE; rw [if_pos (by rw [← HN.out, ← ha]; exact h1)]
  have e2 : cutO l q = l.take a ++ l.drop (a + 1) := by rw [ha]; rfl
  have HFIN : Hid (∀ W w' A5 k c5, Below w1.heap.size w1 W → Below W.heap.size W w' → OwnOd w' W.heap.size (.slice A5 k c5) (a + (n - (a + 1))) (l.take a ++ l.drop (a + 1)) → CanR l q p w (.returned (.int .i64 0)) (w'.setCell ⟨p, 0, none⟩ (.slice A5 k c5))) := fun W w' A5 k c5 h1 h2 ho => by
    have hBB := bT (bT hB1 h1) h2
    refine ⟨by rw [e1], ?_, grown_set hBB p _⟩
    rw [if_pos e1, e2]
    have e : a + (n - (a + 1)) = (l.take a ++ l.drop (a + 1)).length := ho.1
    rw [e] at ho
    exact Bk.set (HB.out.t hBB) ho (by have := h1.size; omega)
  have HBQ : Hid (∀ W w', Below w1.heap.size w1 W → Below W.heap.size W w' → (w'.cell? ⟨p, 0, none⟩ = some (.slice A n c) ∧ w'.frozen? ⟨p, 0, none⟩ = false)) := fun W w' h1 h2 => by
    have hBB := bT (bT hB1 h1) h2
    exact ⟨(HB.out.t hBB).cell 0, (HB.out.t hBB).free 0⟩
  obtain ⟨b, off, rfl, hltb, hat⟩ := HS.out.2.2 (by omega)
  have hd0 := (HB.out.t hB1).cell 0
  have HS1 := hid (HS.out.below hB1)
  have HC : Hid (∀ W vb A2 c1 c2, Below w1.heap.size w1 W → (A2 = some ⟨b, off + (a + 1) * 7, none⟩ ∨ n = a + 1) → Blk W vb 141 #[.slice (some ⟨b, off, none⟩) a c1, .slice A2 (n - (a + 1)) c2] → Calls prog 120 #[.slice (some ⟨vb, 0, none⟩) 2 2] W (GivesOd (a + (n - (a + 1))) (l.take a ++ l.drop (a + 1)) W)) := fun W vb A2 c1 c2 hW hA2 hv => by
    have hsrc := (HS1.out.below hW).src odC_len
    have hnl := HN.out
    have h2 : SrcAt W A2 (n - (a + 1)) 7 ((l.drop (a + 1)).flatMap odC) := by
      by_cases hz : n = a + 1
      · rw [show n - (a + 1) = 0 by omega]
        exact ⟨by rw [odC_flat, List.length_drop]; omega, fun h => absurd h (by omega)⟩
      · rcases hA2 with rfl | hA2
        · have := hsrc.drop (i := a + 1) (by omega)
          rwa [odC_drop l (a + 1) (by omega)] at this
        · exact absurd hA2 hz
    have h1 : SrcAt W (some ⟨b, off, none⟩) a 7 ((l.take a).flatMap odC) := by
      have := hsrc.take (i := a) (by omega)
      rwa [odC_take l a (by omega)] at this
    exact sconcat_c vb _ A2 a c1 (n - (a + 1)) c2 (l.take a) (l.drop (a + 1)) W hv h1 h2 (by rw [List.length_take]; omega) (by rw [List.length_drop]; omega) (by omega) _ rfl
  have v1 : decide ((a : Int) < 0) = false := by simp
  have hw1 : IntKind.i64.wrap ((a : Int) + 1) = (a : Int) + 1 := IntWalk.i64_in _ (by omega)
  have hw2 : (0 : Int) ≤ (a : Int) + 1 := by omega
  have hw3 : ((a : Int) + 1).toNat = a + 1 := by omega
  have hw4 : (a : Int) ≤ (c : Int) := by omega
  have hw5 : (a : Int) + 1 ≤ (n : Int) := by omega
  have hp4 : p < w1.heap.size := by omega
  have hp5 : ¬ p = w1.heap.size := by omega
  have hp6 : ¬ w1.heap.size = p := by omega
  by_cases ec : c = a + 1
  · have hna : n = a + 1 := by omega
    have HNA := hid hna
    clear hat e1 e2 ha hna
    go_wp2_with fail
    go_region_with (first
      | (go_at_call 120; refine (HC.out _ _ _ _ _ (bA (bD (b0 _) 1) _) (Or.inr HNA.out) (Blk.mk _ _ _)).mono ?_; rintro e w5 ⟨⟨v5, rfl, ho5⟩, hb5⟩; obtain ⟨A5, c5, rfl⟩ := oL9 ho5.2; have HO5 := hid (HFIN.out _ _ _ _ _ (bA (bD (b0 _) 1) _) hb5 ho5); clear ho5; obtain ⟨q0, q1⟩ := HBQ.out _ _ (bA (bD (b0 _) 1) _) hb5))
    all_goals
      go_wp2_with fail
      go_ret
      exact (show Hid (CanR l q p w _ _) from by assumption).out
  · clear hat e1 e2 ha
    go_wp2_with fail
    go_region_with (first
      | (go_at_call 120; refine (HC.out _ _ _ _ _ (bA (bD (b0 _) 1) _) (Or.inl rfl) (Blk.mk _ _ _)).mono ?_; rintro e w5 ⟨⟨v5, rfl, ho5⟩, hb5⟩; obtain ⟨A5, c5, rfl⟩ := oL9 ho5.2; have HO5 := hid (HFIN.out _ _ _ _ _ (bA (bD (b0 _) 1) _) hb5 ho5); clear ho5; obtain ⟨q0, q1⟩ := HBQ.out _ _ (bA (bD (b0 _) 1) _) hb5))
    all_goals
      go_wp2_with fail
      go_ret
      exact (show Hid (CanR l q p w _ _) from by assumption).out
end Go.Proofs.YtiaabmhjkoohmaaGreat
