/-
  Contract of table.read: bands of words. Conditions as named.
-/
import Derived.Test.YtcngmajkkhipoaaGreatDoorM1
import Derived.Test.YtcngmajkkhipoaaGreatDoorParse2
import Derived.Test.YtcngmajkkhipoaaGreatDoorM0
namespace Go.Proofs.YtcngmajkkhipoaaGreatDoor
set_option linter.unusedVariables false
open Go.RowKit
--%%
theorem split_c (s : ByteArray) (w : World) (hs : s.size ≤ 1000000) (hm : ML w) : Calls Tryz.prog 39 #[.string s, .string ⟨#[58]⟩] w fun e w' => e = .returned (.slice (some ⟨w.heap.size, 0, none⟩) (ptS s).length (ptS s).length) ∧ w' = w.alloc (.cells ((ptS s).map Value.string).toArray 9) := by
  obtain ⟨m, hm⟩ := hm
  rw [ptS_len]
  exact Tryz.strings_Split s ⟨#[58]⟩ m w (by omega) hm (by decide)
theorem parse_any (s : ByteArray) (w : World) (hs : s.size ≤ 1000000) : Calls Tryz.prog 40 #[.string s] w fun e w' => e = .returned (.tuple #[.int .i64 (parseV s.data.toList), .int .i64 (parseE s.data.toList)]) ∧ Below w.heap.size w w' := parse_c s w (by omega) _ _ rfl rfl
theorem int_any (s : ByteArray) (w : World) (hs : s.size ≤ 1000000) : Calls Tryz.prog 13 #[.string s] w fun e w' => e = .returned (.tuple #[.int .i64 (inV s.data.toList), .int .i64 (inE s.data.toList)]) ∧ Below w.heap.size w w' := int_c s w hs _ _ rfl rfl
--%%
set_option maxRecDepth 100000 in
set_option maxHeartbeats 6400000 in
theorem tread_false (A : Option Addr) (n c : Nat) (L : List ByteArray) (w : World) (hl : StSl w A n L) (hs : ∀ k, k < n → (L.getD k st0).size ≤ 1000000) (hn : n ≤ 1000) (hm : ML w) :
    Calls Tryz.prog 15 #[.slice A n c, .bool false] w (ReadR false L n w) := by
  have HL := Lib.hid hl
  have HSZ := Lib.hid hs
  have HM := Lib.hid hm
  have HN := Lib.hid hl.1
  have HNO : Hid (∀ k r W, k < n → firstNZ (rdF false L) k = 0 → rdF false L k = r → r ≠ 0 → Below w.heap.size w W → ReadR false L n w (.returned (.tuple #[.slice none 0 0, .int .i64 r])) W) := fun k r W hk h0 h1 h2 hb => by
    have e := rdE_stop h0 (by rw [← HN.out]; exact hk) (by rw [h1]; exact h2)
    exact ⟨Or.inr ⟨by rw [e, h1]; exact h2, by rw [e, h1]⟩, hb⟩
  clear hl hs hm
  go_enter Tryz.func15, Tryz.ntmps15
  go_wp2_with fail
  go_loopw [6, 19, 55] (fun cv ci _ wr => ∃ (k : Nat) (A1 : Option Addr) (c1 : Nat), k ≤ n ∧ ci = .int .i64 k ∧ cv = .slice A1 k c1 ∧ Hid (OwnB wr w.heap.size (.slice A1 k c1) k (rdL false (L.take k))) ∧ Hid (firstNZ (rdF false L) k = 0) ∧ Below w.heap.size w wr) (fun _ ci _ _ => n - (intOf ci).toNat)
  case atStart => exact ⟨0, none, 0, Nat.zero_le _, rfl, rfl, ⟨rfl, World.ownsRow_nil _ _ _ _⟩, rfl, b0 _⟩
  case round =>
    obtain ⟨k, A1, c1, hk', rfl, rfl, HO, HF0, hbl⟩ := hrel
    by_cases hk : k < n
    case neg =>
      obtain rfl : n = k := by omega
      have HE : Hid (rdE false L = 0) := by unfold Hid rdE; rw [← HN.out]; exact HF0.out
      have HO2 : Hid (OwnB wr w.heap.size (.slice A1 n c1) n (rdL false L)) := by have := HO.out; rwa [HN.out, List.take_length, ← HN.out] at this
      go_wp2_with fail
      go_ret2
      exact ⟨Or.inl ⟨HE.out, _, rfl, HO2.out⟩, hbl⟩
    obtain ⟨b, off, rfl, hlt, hat⟩ := (HL.out.below hbl).2.2 (by omega)
    have c0 := hat k hk 0 _ rfl
    rw [Nat.mul_one] at c0
    have hsz := HSZ.out k hk
    have HRS := Lib.hid (rdL_snoc false L k (by rw [← HN.out]; exact hk))
    have HRF : Hid (rdF false L k = rdE1 false (ptS (L.getD k st0))) := rfl
    have HNK := Lib.hid (fun r W h1 h2 hb => HNO.out k r W hk HF0.out h1 h2 hb)
    have HNX := Lib.hid (fun h => firstNZ_step (rdF false L) k HF0.out h)
    generalize L.getD k st0 = s at *
    have KS := Lib.hid (fun W h => split_c s W hsz h)
    have hps := ptS_size s
    generalize ptS s = P at *
    have HB := Lib.hid hbl
    have hbs := hbl.size
    have hc0 : wr.cell? ⟨b, off + k, none⟩ = some (.string s) := c0
    clear c0 hat hbl
    by_cases hP : P.length = 2
    case neg =>
      have hw := rd_wrong (both := false) (P := P) (by simpa using hP)
      have HW := Lib.hid (HRF.out.trans hw)
      have v : ((P.length : Int) != 2) = true := by simp; omega
      clear hw hP hps
      go_wp2_with fail
      refine (KS.out _ (HM.out.t HB.out)).mono ?_
      rintro e w1 ⟨rfl, rfl⟩
      generalize P.length = pl at *
      go_wp2_with fail
      go_ret2
      exact HNK.out 5 _ HW.out (by decide) (bA HB.out _)
    obtain ⟨p0, p1, rfl⟩ := two_of hP
    have hrd := rd2 p0 p1
    rw [hrd.1] at HRF
    rw [hrd.2] at HRS
    have z0 : p0.size ≤ 1000000 := Nat.le_trans (hps p0 (by simp)) hsz
    have z1 : p1.size ≤ 1000000 := Nat.le_trans (hps p1 (by simp)) hsz
    have KS2 : Hid (∀ W, ML W → Calls Tryz.prog 39 #[.string s, .string ⟨#[58]⟩] W fun e w' => e = .returned (.slice (some ⟨W.heap.size, 0, none⟩) 2 2) ∧ w' = W.alloc (.cells #[.string p0, .string p1] 9)) := KS.out
    have K0 := Lib.hid (fun W => parse_any p0 W z0)
    have K1 := Lib.hid (fun W => int_any p1 W z1)
    generalize parseV p0.data.toList = v0 at *
    generalize parseE p0.data.toList = e0 at *
    generalize inV p1.data.toList = v1 at *
    generalize inE p1.data.toList = e1 at *
    have y := Blk.mk wr 9 #[.string p0, .string p1]
    have HY := Lib.hid y
    have HB1 := Lib.hid (bA HB.out (.cells #[.string p0, .string p1] 9))
    have HO1 := Lib.hid HO.out.1
    have HOA := Lib.hid (HO.out.2.alloc (.cells #[.string p0, .string p1] 9))
    clear hps hrd hP KS z0 z1 y
    go_wp2_with fail
    refine (KS2.out _ (HM.out.t HB.out)).mono ?_
    rintro e w1 ⟨rfl, rfl⟩
    go_wp2_with fail
    refine (K0.out _).mono ?_
    rintro e w2 ⟨rfl, hb2⟩
    have HB2 := Lib.hid (bT HB1.out hb2)
    have HY2 := Lib.hid (HY.out.t hb2)
    have HO2 := Lib.hid (own_below HOA.out hb2)
    have hs2 := HB2.out.size
    have hyl := HY2.out.lt
    clear hb2 hc0
    by_cases h0 : e0 = 0
    case neg =>
      have u0 : (e0 != 0) = true := by simpa using h0
      have HW : Hid (rdF false L k = e0) := by unfold Hid; rw [HRF.out, if_pos h0]
      have HN0 := Lib.hid h0
      clear h0
      go_wp2_with fail
      go_ret2
      exact HNK.out e0 _ HW.out HN0.out HB2.out
    subst h0
    have HRF2 := Lib.hid (HRF.out.trans (if_neg (fun h => h rfl)))
    clear HRF
    have HBZ := Lib.hid (Blk.mk w2 44 #[.int .i64 v0, .int .i64 0, .int .i64 0])
    have HYZ := Lib.hid (HY2.out.alloc (.cells #[.int .i64 v0, .int .i64 0, .int .i64 0] 44))
    have hyb := HYZ.out
    obtain ⟨yl2, y0⟩ : wr.heap.size < w2.heap.size ∧ True := ⟨hyl, trivial⟩
    clear hyb y0
    go_wp2_with fail
    go_loopw [55] (fun ci wr => ((ci = .int .i64 0 ∧ Hid (Blk wr w2.heap.size 44 #[.int .i64 v0, .int .i64 0, .int .i64 0])) ∨ (ci = .int .i64 1 ∧ Hid (e1 = 0) ∧ Hid (Blk wr w2.heap.size 44 #[.int .i64 v0, .int .i64 v1, .int .i64 0]))) ∧ Below w2.heap.size w2 wr) (fun ci _ => 1 - (intOf ci).toNat)
    case atStart => exact ⟨Or.inl ⟨rfl, HBZ.out⟩, below1 _ _⟩
    case round =>
      obtain ⟨hr, hbi⟩ := hrel
      have HBI := Lib.hid hbi
      have HYI := Lib.hid (HY2.out.t hbi)
      have hsi := hbi.size
      clear hbi
      rcases hr with ⟨rfl, HZ⟩ | ⟨rfl, HE1, HZ⟩
      · have q1 := HYI.out.cell 1
        go_wp2_with fail
        refine (K1.out _).mono ?_
        rintro e w3 ⟨rfl, hb3⟩
        have HB3 := Lib.hid (bT HBI.out hb3)
        have HZ3 := Lib.hid (HZ.out.t hb3)
        clear hb3 q1
        by_cases h1 : e1 = 0
        case neg =>
          have u1 : (e1 != 0) = true := by simpa using h1
          have HW : Hid (rdF false L k = e1) := by unfold Hid; rw [HRF2.out]
          have HN1 := Lib.hid h1
          clear h1
          go_wp2_with fail
          go_ret2
          exact HNK.out e1 _ HW.out HN1.out (bT HB2.out HB3.out)
        have HE1 := Lib.hid h1
        subst h1
        obtain ⟨r1, r2⟩ : w3.cell? ⟨w2.heap.size, 1, none⟩ = some (.int .i64 0) ∧ w3.frozen? ⟨w2.heap.size, 1, none⟩ = false := ⟨HZ3.out.cell 1, HZ3.out.free 1⟩
        go_wp2_with fail
        go_roundw
        case rel => exact ⟨Or.inr (⟨rfl, HE1.out, HZ3.out.setJ 1 _⟩), bS HB3.out (Nat.le_refl _) _⟩
        case measure => simp [intOf]
      · obtain ⟨r0, r1, r2⟩ : wr.cell? ⟨w2.heap.size, 0, none⟩ = some (.int .i64 v0) ∧ wr.cell? ⟨w2.heap.size, 1, none⟩ = some (.int .i64 v1) ∧ wr.cell? ⟨w2.heap.size, 2, none⟩ = some (.int .i64 0) := ⟨HZ.out.cell 0, HZ.out.cell 1, HZ.out.cell 2⟩
        have HOI := Lib.hid (own_below HO2.out HBI.out)
        have HBW := Lib.hid (bT HB2.out HBI.out)
        have hsw := HBW.out.size
        have HW : Hid (rdF false L k = 0) := by unfold Hid; rw [HRF2.out]; exact HE1.out
        have HNX2 := Lib.hid (HNX.out HW.out)
        go_wp2_with (at_builtin; refine wpList_app1 _ rfl _ _ 42 rfl 44 _ 3 24 Tryz.underlying42 info_band rfl (by decide) rfl HOI.out _ rfl (by first | rfl | simp) rfl (by simp [Value.oneCell']) (by omega) (by omega) (by first | omega | (simp; omega)) ?_; intro v' w6 ho' hg)
        obtain ⟨A6, c6, rfl⟩ := own_slice ho'
        have HO6 : Hid (OwnB w6 w.heap.size (.slice A6 (k + 1) c6) (k + 1) (rdL false (L.take (k + 1)))) := by
          unfold Hid
          rw [HRS.out]
          exact ⟨by simp [← HO1.out], by simpa [bdC] using ho'⟩
        have HB6 := Lib.hid (bP HBW.out HOI.out hg (Nat.le_refl _))
        clear ho' hg r0 r1 r2
        go_wp2_with fail
        go_roundw
        case rel => exact ⟨k + 1, A6, c6, by omega, by go_num, rfl, HO6.out, HNX2.out, HB6.out⟩
        case measure => simp [intOf]; omega
--%%
set_option maxRecDepth 100000 in
set_option maxHeartbeats 6400000 in
theorem tread_true (A : Option Addr) (n c : Nat) (L : List ByteArray) (w : World) (hl : StSl w A n L) (hs : ∀ k, k < n → (L.getD k st0).size ≤ 1000000) (hn : n ≤ 1000) (hm : ML w) :
    Calls Tryz.prog 15 #[.slice A n c, .bool true] w (ReadR true L n w) := by
  have HL := Lib.hid hl
  have HSZ := Lib.hid hs
  have HM := Lib.hid hm
  have HN := Lib.hid hl.1
  have HNO : Hid (∀ k r W, k < n → firstNZ (rdF true L) k = 0 → rdF true L k = r → r ≠ 0 → Below w.heap.size w W → ReadR true L n w (.returned (.tuple #[.slice none 0 0, .int .i64 r])) W) := fun k r W hk h0 h1 h2 hb => by
    have e := rdE_stop h0 (by rw [← HN.out]; exact hk) (by rw [h1]; exact h2)
    exact ⟨Or.inr ⟨by rw [e, h1]; exact h2, by rw [e, h1]⟩, hb⟩
  clear hl hs hm
  go_enter Tryz.func15, Tryz.ntmps15
  go_wp2_with fail
  go_loopw [6, 19, 55] (fun cv ci _ wr => ∃ (k : Nat) (A1 : Option Addr) (c1 : Nat), k ≤ n ∧ ci = .int .i64 k ∧ cv = .slice A1 k c1 ∧ Hid (OwnB wr w.heap.size (.slice A1 k c1) k (rdL true (L.take k))) ∧ Hid (firstNZ (rdF true L) k = 0) ∧ Below w.heap.size w wr) (fun _ ci _ _ => n - (intOf ci).toNat)
  case atStart => exact ⟨0, none, 0, Nat.zero_le _, rfl, rfl, ⟨rfl, World.ownsRow_nil _ _ _ _⟩, rfl, b0 _⟩
  case round =>
    obtain ⟨k, A1, c1, hk', rfl, rfl, HO, HF0, hbl⟩ := hrel
    by_cases hk : k < n
    case neg =>
      obtain rfl : n = k := by omega
      have HE : Hid (rdE true L = 0) := by unfold Hid rdE; rw [← HN.out]; exact HF0.out
      have HO2 : Hid (OwnB wr w.heap.size (.slice A1 n c1) n (rdL true L)) := by have := HO.out; rwa [HN.out, List.take_length, ← HN.out] at this
      go_wp2_with fail
      go_ret2
      exact ⟨Or.inl ⟨HE.out, _, rfl, HO2.out⟩, hbl⟩
    obtain ⟨b, off, rfl, hlt, hat⟩ := (HL.out.below hbl).2.2 (by omega)
    have c0 := hat k hk 0 _ rfl
    rw [Nat.mul_one] at c0
    have hsz := HSZ.out k hk
    have HRS := Lib.hid (rdL_snoc true L k (by rw [← HN.out]; exact hk))
    have HRF : Hid (rdF true L k = rdE1 true (ptS (L.getD k st0))) := rfl
    have HNK := Lib.hid (fun r W h1 h2 hb => HNO.out k r W hk HF0.out h1 h2 hb)
    have HNX := Lib.hid (fun h => firstNZ_step (rdF true L) k HF0.out h)
    generalize L.getD k st0 = s at *
    have KS := Lib.hid (fun W h => split_c s W hsz h)
    have hps := ptS_size s
    generalize ptS s = P at *
    have HB := Lib.hid hbl
    have hbs := hbl.size
    have hc0 : wr.cell? ⟨b, off + k, none⟩ = some (.string s) := c0
    clear c0 hat hbl
    by_cases hP : P.length = 3
    case neg =>
      have hw := rd_wrong (both := true) (P := P) (by simpa using hP)
      have HW := Lib.hid (HRF.out.trans hw)
      have v : ((P.length : Int) != 3) = true := by simp; omega
      clear hw hP hps
      go_wp2_with fail
      refine (KS.out _ (HM.out.t HB.out)).mono ?_
      rintro e w1 ⟨rfl, rfl⟩
      generalize P.length = pl at *
      go_wp2_with fail
      go_ret2
      exact HNK.out 5 _ HW.out (by decide) (bA HB.out _)
    obtain ⟨p0, p1, p2, rfl⟩ := three_of hP
    have hrd := rd3 p0 p1 p2
    rw [hrd.1] at HRF
    rw [hrd.2] at HRS
    have z0 : p0.size ≤ 1000000 := Nat.le_trans (hps p0 (by simp)) hsz
    have z1 : p1.size ≤ 1000000 := Nat.le_trans (hps p1 (by simp)) hsz
    have z2 : p2.size ≤ 1000000 := Nat.le_trans (hps p2 (by simp)) hsz
    have KS2 : Hid (∀ W, ML W → Calls Tryz.prog 39 #[.string s, .string ⟨#[58]⟩] W fun e w' => e = .returned (.slice (some ⟨W.heap.size, 0, none⟩) 3 3) ∧ w' = W.alloc (.cells #[.string p0, .string p1, .string p2] 9)) := KS.out
    have K0 := Lib.hid (fun W => parse_any p0 W z0)
    have K1 := Lib.hid (fun W => int_any p1 W z1)
    have K2 := Lib.hid (fun W => int_any p2 W z2)
    generalize parseV p0.data.toList = v0 at *
    generalize parseE p0.data.toList = e0 at *
    generalize inV p1.data.toList = v1 at *
    generalize inE p1.data.toList = e1 at *
    generalize inV p2.data.toList = v2 at *
    generalize inE p2.data.toList = e2 at *
    have y := Blk.mk wr 9 #[.string p0, .string p1, .string p2]
    have HY := Lib.hid y
    have HB1 := Lib.hid (bA HB.out (.cells #[.string p0, .string p1, .string p2] 9))
    have HO1 := Lib.hid HO.out.1
    have HOA := Lib.hid (HO.out.2.alloc (.cells #[.string p0, .string p1, .string p2] 9))
    clear hps hrd hP KS z0 z1 z2 y
    go_wp2_with fail
    refine (KS2.out _ (HM.out.t HB.out)).mono ?_
    rintro e w1 ⟨rfl, rfl⟩
    go_wp2_with fail
    refine (K0.out _).mono ?_
    rintro e w2 ⟨rfl, hb2⟩
    have HB2 := Lib.hid (bT HB1.out hb2)
    have HY2 := Lib.hid (HY.out.t hb2)
    have HO2 := Lib.hid (own_below HOA.out hb2)
    have hs2 := HB2.out.size
    have hyl := HY2.out.lt
    clear hb2 hc0
    by_cases h0 : e0 = 0
    case neg =>
      have u0 : (e0 != 0) = true := by simpa using h0
      have HW : Hid (rdF true L k = e0) := by unfold Hid; rw [HRF.out, if_pos h0]
      have HN0 := Lib.hid h0
      clear h0
      go_wp2_with fail
      go_ret2
      exact HNK.out e0 _ HW.out HN0.out HB2.out
    subst h0
    have HRF2 := Lib.hid (HRF.out.trans (if_neg (fun h => h rfl)))
    clear HRF
    have HBZ := Lib.hid (Blk.mk w2 44 #[.int .i64 v0, .int .i64 0, .int .i64 0])
    have HYZ := Lib.hid (HY2.out.alloc (.cells #[.int .i64 v0, .int .i64 0, .int .i64 0] 44))
    have hyb := HYZ.out
    obtain ⟨yl2, y0⟩ : wr.heap.size < w2.heap.size ∧ True := ⟨hyl, trivial⟩
    clear hyb y0
    go_wp2_with fail
    go_loopw [55] (fun ci wr => ((ci = .int .i64 0 ∧ Hid (Blk wr w2.heap.size 44 #[.int .i64 v0, .int .i64 0, .int .i64 0])) ∨ (ci = .int .i64 1 ∧ Hid (e1 = 0) ∧ Hid (Blk wr w2.heap.size 44 #[.int .i64 v0, .int .i64 v1, .int .i64 0])) ∨ (ci = .int .i64 2 ∧ Hid (e1 = 0) ∧ Hid (e2 = 0) ∧ Hid (Blk wr w2.heap.size 44 #[.int .i64 v0, .int .i64 v1, .int .i64 v2]))) ∧ Below w2.heap.size w2 wr) (fun ci _ => 2 - (intOf ci).toNat)
    case atStart => exact ⟨Or.inl ⟨rfl, HBZ.out⟩, below1 _ _⟩
    case round =>
      obtain ⟨hr, hbi⟩ := hrel
      have HBI := Lib.hid hbi
      have HYI := Lib.hid (HY2.out.t hbi)
      have hsi := hbi.size
      clear hbi
      rcases hr with ⟨rfl, HZ⟩ | ⟨rfl, HE1, HZ⟩ | ⟨rfl, HE1, HE2, HZ⟩
      · have q1 := HYI.out.cell 1
        go_wp2_with fail
        refine (K1.out _).mono ?_
        rintro e w3 ⟨rfl, hb3⟩
        have HB3 := Lib.hid (bT HBI.out hb3)
        have HZ3 := Lib.hid (HZ.out.t hb3)
        clear hb3 q1
        by_cases h1 : e1 = 0
        case neg =>
          have u1 : (e1 != 0) = true := by simpa using h1
          have HW : Hid (rdF true L k = e1) := by unfold Hid; rw [HRF2.out, if_pos h1]
          have HN1 := Lib.hid h1
          clear h1
          go_wp2_with fail
          go_ret2
          exact HNK.out e1 _ HW.out HN1.out (bT HB2.out HB3.out)
        have HE1 := Lib.hid h1
        subst h1
        obtain ⟨r1, r2⟩ : w3.cell? ⟨w2.heap.size, 1, none⟩ = some (.int .i64 0) ∧ w3.frozen? ⟨w2.heap.size, 1, none⟩ = false := ⟨HZ3.out.cell 1, HZ3.out.free 1⟩
        go_wp2_with fail
        go_roundw
        case rel => exact ⟨Or.inr (Or.inl ⟨rfl, HE1.out, HZ3.out.setJ 1 _⟩), bS HB3.out (Nat.le_refl _) _⟩
        case measure => simp [intOf]
      · have q2 := HYI.out.cell 2
        go_wp2_with fail
        refine (K2.out _).mono ?_
        rintro e w3 ⟨rfl, hb3⟩
        have HB3 := Lib.hid (bT HBI.out hb3)
        have HZ3 := Lib.hid (HZ.out.t hb3)
        clear hb3 q2
        by_cases h2 : e2 = 0
        case neg =>
          have u1 : (e2 != 0) = true := by simpa using h2
          have HW : Hid (rdF true L k = e2) := by unfold Hid; rw [HRF2.out, if_neg (fun h => h HE1.out)]
          have HN1 := Lib.hid h2
          clear h2
          go_wp2_with fail
          go_ret2
          exact HNK.out e2 _ HW.out HN1.out (bT HB2.out HB3.out)
        have HE2 := Lib.hid h2
        subst h2
        obtain ⟨r1, r2⟩ : w3.cell? ⟨w2.heap.size, 2, none⟩ = some (.int .i64 0) ∧ w3.frozen? ⟨w2.heap.size, 2, none⟩ = false := ⟨HZ3.out.cell 2, HZ3.out.free 2⟩
        go_wp2_with fail
        go_roundw
        case rel => exact ⟨Or.inr (Or.inr ⟨rfl, HE1.out, HE2.out, HZ3.out.setJ 2 _⟩), bS HB3.out (Nat.le_refl _) _⟩
        case measure => simp [intOf]
      · obtain ⟨r0, r1, r2⟩ : wr.cell? ⟨w2.heap.size, 0, none⟩ = some (.int .i64 v0) ∧ wr.cell? ⟨w2.heap.size, 1, none⟩ = some (.int .i64 v1) ∧ wr.cell? ⟨w2.heap.size, 2, none⟩ = some (.int .i64 v2) := ⟨HZ.out.cell 0, HZ.out.cell 1, HZ.out.cell 2⟩
        have HOI := Lib.hid (own_below HO2.out HBI.out)
        have HBW := Lib.hid (bT HB2.out HBI.out)
        have hsw := HBW.out.size
        have HW : Hid (rdF true L k = 0) := by unfold Hid; rw [HRF2.out, if_neg (fun h => h HE1.out)]; exact HE2.out
        have HNX2 := Lib.hid (HNX.out HW.out)
        go_wp2_with (at_builtin; refine wpList_app1 _ rfl _ _ 42 rfl 44 _ 3 24 Tryz.underlying42 info_band rfl (by decide) rfl HOI.out _ rfl (by first | rfl | simp) rfl (by simp [Value.oneCell']) (by omega) (by omega) (by first | omega | (simp; omega)) ?_; intro v' w6 ho' hg)
        obtain ⟨A6, c6, rfl⟩ := own_slice ho'
        have HO6 : Hid (OwnB w6 w.heap.size (.slice A6 (k + 1) c6) (k + 1) (rdL true (L.take (k + 1)))) := by
          unfold Hid
          rw [HRS.out]
          exact ⟨by simp [← HO1.out], by simpa [bdC] using ho'⟩
        have HB6 := Lib.hid (bP HBW.out HOI.out hg (Nat.le_refl _))
        clear ho' hg r0 r1 r2
        go_wp2_with fail
        go_roundw
        case rel => exact ⟨k + 1, A6, c6, by omega, by go_num, rfl, HO6.out, HNX2.out, HB6.out⟩
        case measure => simp [intOf]; omega
--%%
theorem tread_c (A : Option Addr) (n c : Nat) (L : List ByteArray) (both : Bool) (w : World) (hl : StSl w A n L) (hs : ∀ k, k < n → (L.getD k st0).size ≤ 1000000) (hn : n ≤ 1000) (hm : ML w) :
    Calls Tryz.prog 15 #[.slice A n c, .bool both] w (ReadR both L n w) := by
  cases both with
  | false => exact tread_false A n c L w hl hs hn hm
  | true => exact tread_true A n c L w hl hs hn hm
--%%
end Go.Proofs.YtcngmajkkhipoaaGreatDoor
