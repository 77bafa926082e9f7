/-
  Contract of table.kind: a kind of words. Conditions as named.
-/
import Derived.Test.YtcngmajkkhipoaaGreatDoorM1
import Derived.Test.YtcngmajkkhipoaaGreatDoorM0
import Derived.Lib.IndexMore
import Derived.Lib.IndexBytes
import Derived.BigRegion
namespace Go.Proofs.YtcngmajkkhipoaaGreatDoor
set_option linter.unusedVariables false
open Go.RowKit
/-- a sign's place, and whether it is one -/
def sgX (s : ByteArray) : Int := Lib.index [45, 48, 43] s.data.toList
def sgB (s : ByteArray) : Bool := decide (s.size = 1) && decide (0 ≤ sgX s)
theorem sgX_bd (s : ByteArray) : -1 ≤ sgX s ∧ sgX s ≤ 3 := ⟨Lib.index_ge _ _, Lib.index_le _ _⟩
def kwE (n : Nat) (L : List ByteArray) : Int := if n = 4 ∧ sgB (L.getD 1 st0) = true ∧ sgB (L.getD 2 st0) = true ∧ sgB (L.getD 3 st0) = true then 0 else 5
def kwV (L : List ByteArray) : Kd := ⟨L.getD 0 st0, sgX (L.getD 1 st0) - 1, sgX (L.getD 2 st0) - 1, sgX (L.getD 3 st0) - 1⟩
def KindR (n : Nat) (L : List ByteArray) (w : World) (e : Ending) (w' : World) : Prop :=
  ((kwE n L = 0 ∧ e = .returned (.tuple #[.agg (kdC (kwV L)).toArray, .int .i64 0])) ∨ (kwE n L ≠ 0 ∧ e = .returned (.tuple #[.agg #[.string ⟨#[]⟩, .int .i64 0, .int .i64 0, .int .i64 0], .int .i64 5]))) ∧ Below w.heap.size w w'
theorem four_of {L : List ByteArray} (h : L.length = 4) : ∃ a b c d, L = [a, b, c, d] := by
  match L, h with
  | [a, b, c, d], _ => exact ⟨a, b, c, d, rfl⟩
theorem Blk.a4g {w : World} {g : Nat} {t : TypeId} {a b c d : Value} (h : Blk w g t #[a, b, c, d]) : (w.cell? ⟨g, 0, none⟩ = some a ∧ w.cell? ⟨g, 1, none⟩ = some b ∧ w.cell? ⟨g, 2, none⟩ = some c ∧ w.cell? ⟨g, 3, none⟩ = some d) ∧ (w.frozen? ⟨g, 0, none⟩ = false ∧ w.frozen? ⟨g, 1, none⟩ = false ∧ w.frozen? ⟨g, 2, none⟩ = false ∧ w.frozen? ⟨g, 3, none⟩ = false) := ⟨⟨h.cell 0, h.cell 1, h.cell 2, h.cell 3⟩, h.free 0, h.free 1, h.free 2, h.free 3⟩
theorem bS4 {w0 W : World} (h : Below w0.heap.size w0 W) {b : Nat} (hb : w0.heap.size ≤ b) (v0 v1 v2 v3 : Value) : Below w0.heap.size w0 ((((W.setCell ⟨b, 0, none⟩ v0).setCell ⟨b, 1, none⟩ v1).setCell ⟨b, 2, none⟩ v2).setCell ⟨b, 3, none⟩ v3) := bS (bS (bS (bS h hb _) hb _) hb _) hb _
--%%
theorem sign_index (s : ByteArray) (w : World) (hm : ML w) : Calls Tryz.prog 41 #[.string ⟨#[45, 48, 43]⟩, .string s] w fun e w' => e = .returned (.int .i64 (sgX s)) ∧ w' = w := by
  obtain ⟨m, hm⟩ := hm
  exact Tryz.strings_Index ⟨#[45, 48, 43]⟩ s m w (by decide) hm
set_option maxRecDepth 100000 in
set_option maxHeartbeats 6400000 in
theorem tkind_c (A : Option Addr) (n c : Nat) (L : List ByteArray) (w : World) (hl : StSl w A n L) (hc : n ≤ c) (hs : ∀ k, k < n → (L.getD k st0).size ≤ 1000000) (hm : ML w) :
    Calls Tryz.prog 17 #[.slice A n c] w (KindR n L w) := by
  have HL := Lib.hid hl
  have HM := Lib.hid hm
  have hn9 := hl.2.1
  have HLEN := Lib.hid hl.1
  have HNO : Hid (∀ W, kwE n L ≠ 0 → Below w.heap.size w W → KindR n L w (.returned (.tuple #[.agg #[.string ⟨#[]⟩, .int .i64 0, .int .i64 0, .int .i64 0], .int .i64 5])) W) := fun W h hb => ⟨Or.inr ⟨h, rfl⟩, hb⟩
  have HB0 := Lib.hid (below1 w (.cells #[.string ⟨#[]⟩, .int .i64 0, .int .i64 0, .int .i64 0] 56))
  have y := Blk.mk w 56 #[.string ⟨#[]⟩, .int .i64 0, .int .i64 0, .int .i64 0]
  have HY := Lib.hid y
  clear hl hm y
  by_cases h4 : n = 4
  case neg =>
    have v : ((n : Int) != 4) = true := by simp; omega
    have HE : Hid (kwE n L ≠ 0) := by unfold Hid kwE; rw [if_neg (fun h => h4 h.1)]; decide
    clear h4 hs
    go_enter Tryz.func17, Tryz.ntmps17
    go_wp2_with fail
    refine bodyPost_ret (v := .tuple #[.agg #[.string ⟨#[]⟩, .int .i64 0, .int .i64 0, .int .i64 0], .int .i64 5]) (by simp [results, Tryz.results17, go_sem]) rfl (HNO.out _ HE.out ?_)
    first | exact bS4 HB0.out (Nat.le_refl _) _ _ _ _ | exact HB0.out
  subst h4
  obtain ⟨s0, s1, s2, s3, rfl⟩ := four_of HLEN.out.symm
  obtain ⟨b, off, rfl, hlt, hat⟩ := HL.out.2.2 (by decide)
  obtain ⟨c0, c1, c2, c3⟩ : w.cell? ⟨b, off, none⟩ = some (.string s0) ∧ w.cell? ⟨b, off + 1, none⟩ = some (.string s1) ∧ w.cell? ⟨b, off + 2, none⟩ = some (.string s2) ∧ w.cell? ⟨b, off + 3, none⟩ = some (.string s3) := ⟨hat 0 (by decide) 0 _ rfl, hat 1 (by decide) 0 _ rfl, hat 2 (by decide) 0 _ rfl, hat 3 (by decide) 0 _ rfl⟩
  have HC0 : Hid (∀ W, Below w.heap.size w W → W.cell? ⟨b, off, none⟩ = some (.string s0)) := fun W hW => (hW.cell (p := ⟨b, _, none⟩) hlt).trans c0
  have HC1 : Hid (∀ W, Below w.heap.size w W → W.cell? ⟨b, off + 1, none⟩ = some (.string s1)) := fun W hW => (hW.cell (p := ⟨b, _, none⟩) hlt).trans c1
  have HC2 : Hid (∀ W, Below w.heap.size w W → W.cell? ⟨b, off + 2, none⟩ = some (.string s2)) := fun W hW => (hW.cell (p := ⟨b, _, none⟩) hlt).trans c2
  have HC3 : Hid (∀ W, Below w.heap.size w W → W.cell? ⟨b, off + 3, none⟩ = some (.string s3)) := fun W hW => (hW.cell (p := ⟨b, _, none⟩) hlt).trans c3
  have HK : Hid (kwE 4 [s0, s1, s2, s3] = if sgB s1 = true ∧ sgB s2 = true ∧ sgB s3 = true then 0 else 5) := by
    unfold Hid kwE
    by_cases h : sgB s1 = true ∧ sgB s2 = true ∧ sgB s3 = true
    · rw [if_pos h]; exact if_pos ⟨rfl, h⟩
    · rw [if_neg h]; exact if_neg (fun g => h g.2)
  have HYES : Hid (∀ W, sgB s1 = true ∧ sgB s2 = true ∧ sgB s3 = true → Below w.heap.size w W → KindR 4 [s0, s1, s2, s3] w (.returned (.tuple #[.agg #[.string s0, .int .i64 (sgX s1 - 1), .int .i64 (sgX s2 - 1), .int .i64 (sgX s3 - 1)], .int .i64 0])) W) := fun W h hb => ⟨Or.inl ⟨by rw [HK.out, if_pos h], rfl⟩, hb⟩
  have K1 := Lib.hid (fun W h => sign_index s1 W h)
  have hx1 := sgX_bd s1
  have HS1 : Hid (sgB s1 = (decide (s1.size = 1) && decide (0 ≤ sgX s1))) := rfl
  generalize sgX s1 = x1 at *
  obtain ⟨a1, d1⟩ := hx1
  have K2 := Lib.hid (fun W h => sign_index s2 W h)
  have hx2 := sgX_bd s2
  have HS2 : Hid (sgB s2 = (decide (s2.size = 1) && decide (0 ≤ sgX s2))) := rfl
  generalize sgX s2 = x2 at *
  obtain ⟨a2, d2⟩ := hx2
  have K3 := Lib.hid (fun W h => sign_index s3 W h)
  have hx3 := sgX_bd s3
  have HS3 : Hid (sgB s3 = (decide (s3.size = 1) && decide (0 ≤ sgX s3))) := rfl
  generalize sgX s3 = x3 at *
  obtain ⟨a3, d3⟩ := hx3
  have HBA := Lib.hid (bA HB0.out (.cells #[.int .i64 0, .int .i64 0, .int .i64 0] 65))
  have HY1 := Lib.hid (HY.out.alloc (.cells #[.int .i64 0, .int .i64 0, .int .i64 0] 65))
  have z := Blk.mk (w.alloc (.cells #[.string ⟨#[]⟩, .int .i64 0, .int .i64 0, .int .i64 0] 56)) 65 #[.int .i64 0, .int .i64 0, .int .i64 0]
  rw [World.size_alloc] at z
  have HZ := Lib.hid z
  clear z hat c0 c1 c2 c3 hs
  have HCAP := Lib.hid hc
  go_enter Tryz.func17, Tryz.ntmps17
  go_wp2_with fail
  go_loopw [15] (fun ci wr => ((ci = .int .i64 0 ∧ Hid (Blk wr (w.heap.size + 1) 65 #[.int .i64 0, .int .i64 0, .int .i64 0])) ∨ (ci = .int .i64 1 ∧ Hid (sgB s1 = true) ∧ Hid (Blk wr (w.heap.size + 1) 65 #[.int .i64 (x1 - 1), .int .i64 0, .int .i64 0])) ∨ (ci = .int .i64 2 ∧ Hid (sgB s1 = true) ∧ Hid (sgB s2 = true) ∧ Hid (Blk wr (w.heap.size + 1) 65 #[.int .i64 (x1 - 1), .int .i64 (x2 - 1), .int .i64 0])) ∨ (ci = .int .i64 3 ∧ Hid (sgB s1 = true) ∧ Hid (sgB s2 = true) ∧ Hid (sgB s3 = true) ∧ Hid (Blk wr (w.heap.size + 1) 65 #[.int .i64 (x1 - 1), .int .i64 (x2 - 1), .int .i64 (x3 - 1)]))) ∧ Hid (Blk wr w.heap.size 56 #[.string ⟨#[]⟩, .int .i64 0, .int .i64 0, .int .i64 0]) ∧ Below w.heap.size w wr) (fun ci _ => 3 - (intOf ci).toNat)
  case atStart => exact ⟨Or.inl ⟨rfl, HZ.out⟩, HY1.out, HBA.out⟩
  case round =>
    obtain ⟨hr, HYR, hbi⟩ := hrel
    have HBI := Lib.hid hbi
    have hsi := hbi.size
    clear hbi
    rcases hr with ⟨rfl, HR⟩ | ⟨rfl, HG1, HR⟩ | ⟨rfl, HG1, HG2, HR⟩ | ⟨rfl, HG1, HG2, HG3, HR⟩
    · have q1 := HC1.out wr HBI.out
      have HNG : Hid (sgB s1 = false → kwE 4 [s0, s1, s2, s3] ≠ 0) := fun h => by
        rw [HK.out, if_neg (fun g => by have := g.1; rw [h] at this; cases this)]; decide
      obtain ⟨⟨y0, y1, y2, y3⟩, f0, f1, f2, f3⟩ := HYR.out.a4g
      by_cases hz : s1.size = 1
      case neg =>
        have v1 : ((s1.size : Int) != 1) = true := by simp; omega
        have HE := Lib.hid (HNG.out (by rw [HS1.out, decide_eq_false hz]; rfl))
        clear hz
        go_wp2_with fail
        refine (K1.out _ (HM.out.t HBI.out)).mono ?_
        rintro e w3 ⟨rfl, rfl⟩
        go_wp2_with fail
        refine bodyPost_ret (v := .tuple #[.agg #[.string ⟨#[]⟩, .int .i64 0, .int .i64 0, .int .i64 0], .int .i64 5]) (by simp [results, Tryz.results17, go_sem, y0, y1, y2, y3]) rfl (HNO.out _ HE.out ?_)
        exact bS4 HBI.out (Nat.le_refl _) _ _ _ _
      have v1 : ((s1.size : Int) != 1) = false := by simp; omega
      by_cases hq : x1 < 0
      · have v2 : decide (x1 < 0) = true := by simpa using hq
        have HE := Lib.hid (HNG.out (by rw [HS1.out, decide_eq_false (show ¬ 0 ≤ x1 by omega), Bool.and_false]))
        clear hz hq
        go_wp2_with fail
        refine (K1.out _ (HM.out.t HBI.out)).mono ?_
        rintro e w3 ⟨rfl, rfl⟩
        go_wp2_with fail
        refine bodyPost_ret (v := .tuple #[.agg #[.string ⟨#[]⟩, .int .i64 0, .int .i64 0, .int .i64 0], .int .i64 5]) (by simp [results, Tryz.results17, go_sem, y0, y1, y2, y3]) rfl (HNO.out _ HE.out ?_)
        exact bS4 HBI.out (Nat.le_refl _) _ _ _ _
      have v2 : decide (x1 < 0) = false := by simpa using hq
      have HGN : Hid (sgB s1 = true) := by unfold Hid; rw [HS1.out, decide_eq_true hz, decide_eq_true (show 0 ≤ x1 by omega)]; rfl
      obtain ⟨r0, r1⟩ : wr.cell? ⟨w.heap.size + 1, 0, none⟩ = some (.int .i64 0) ∧ wr.frozen? ⟨w.heap.size + 1, 0, none⟩ = false := ⟨HR.out.cell 0, HR.out.free 0⟩
      have kk0 : 0 ≤ x1 := by omega
      clear hz hq y0 y1 y2 y3 f0 f1 f2 f3
      go_wp2_with fail
      refine (K1.out _ (HM.out.t HBI.out)).mono ?_
      rintro e w3 ⟨rfl, rfl⟩
      go_wp2_with fail
      go_roundw
      case rel => exact ⟨Or.inr (Or.inl ⟨rfl, HGN.out, HR.out.setJ 0 _⟩), HYR.out.setO (by omega) 0 _, bS HBI.out (Nat.le_succ _) _⟩
      case measure => simp [intOf]
    · have q1 := HC2.out wr HBI.out
      have HNG : Hid (sgB s2 = false → kwE 4 [s0, s1, s2, s3] ≠ 0) := fun h => by
        rw [HK.out, if_neg (fun g => by have := g.2.1; rw [h] at this; cases this)]; decide
      obtain ⟨⟨y0, y1, y2, y3⟩, f0, f1, f2, f3⟩ := HYR.out.a4g
      by_cases hz : s2.size = 1
      case neg =>
        have v1 : ((s2.size : Int) != 1) = true := by simp; omega
        have HE := Lib.hid (HNG.out (by rw [HS2.out, decide_eq_false hz]; rfl))
        clear hz
        go_wp2_with fail
        refine (K2.out _ (HM.out.t HBI.out)).mono ?_
        rintro e w3 ⟨rfl, rfl⟩
        go_wp2_with fail
        refine bodyPost_ret (v := .tuple #[.agg #[.string ⟨#[]⟩, .int .i64 0, .int .i64 0, .int .i64 0], .int .i64 5]) (by simp [results, Tryz.results17, go_sem, y0, y1, y2, y3]) rfl (HNO.out _ HE.out ?_)
        exact bS4 HBI.out (Nat.le_refl _) _ _ _ _
      have v1 : ((s2.size : Int) != 1) = false := by simp; omega
      by_cases hq : x2 < 0
      · have v2 : decide (x2 < 0) = true := by simpa using hq
        have HE := Lib.hid (HNG.out (by rw [HS2.out, decide_eq_false (show ¬ 0 ≤ x2 by omega), Bool.and_false]))
        clear hz hq
        go_wp2_with fail
        refine (K2.out _ (HM.out.t HBI.out)).mono ?_
        rintro e w3 ⟨rfl, rfl⟩
        go_wp2_with fail
        refine bodyPost_ret (v := .tuple #[.agg #[.string ⟨#[]⟩, .int .i64 0, .int .i64 0, .int .i64 0], .int .i64 5]) (by simp [results, Tryz.results17, go_sem, y0, y1, y2, y3]) rfl (HNO.out _ HE.out ?_)
        exact bS4 HBI.out (Nat.le_refl _) _ _ _ _
      have v2 : decide (x2 < 0) = false := by simpa using hq
      have HGN : Hid (sgB s2 = true) := by unfold Hid; rw [HS2.out, decide_eq_true hz, decide_eq_true (show 0 ≤ x2 by omega)]; rfl
      obtain ⟨r0, r1⟩ : wr.cell? ⟨w.heap.size + 1, 1, none⟩ = some (.int .i64 0) ∧ wr.frozen? ⟨w.heap.size + 1, 1, none⟩ = false := ⟨HR.out.cell 1, HR.out.free 1⟩
      have kk0 : 0 ≤ x2 := by omega
      clear hz hq y0 y1 y2 y3 f0 f1 f2 f3
      go_wp2_with fail
      refine (K2.out _ (HM.out.t HBI.out)).mono ?_
      rintro e w3 ⟨rfl, rfl⟩
      go_wp2_with fail
      go_roundw
      case rel => exact ⟨Or.inr (Or.inr (Or.inl ⟨rfl, HG1.out, HGN.out, HR.out.setJ 1 _⟩)), HYR.out.setO (by omega) 1 _, bS HBI.out (Nat.le_succ _) _⟩
      case measure => simp [intOf]
    · have q1 := HC3.out wr HBI.out
      have HNG : Hid (sgB s3 = false → kwE 4 [s0, s1, s2, s3] ≠ 0) := fun h => by
        rw [HK.out, if_neg (fun g => by have := g.2.2; rw [h] at this; cases this)]; decide
      obtain ⟨⟨y0, y1, y2, y3⟩, f0, f1, f2, f3⟩ := HYR.out.a4g
      by_cases hz : s3.size = 1
      case neg =>
        have v1 : ((s3.size : Int) != 1) = true := by simp; omega
        have HE := Lib.hid (HNG.out (by rw [HS3.out, decide_eq_false hz]; rfl))
        clear hz
        go_wp2_with fail
        refine (K3.out _ (HM.out.t HBI.out)).mono ?_
        rintro e w3 ⟨rfl, rfl⟩
        go_wp2_with fail
        refine bodyPost_ret (v := .tuple #[.agg #[.string ⟨#[]⟩, .int .i64 0, .int .i64 0, .int .i64 0], .int .i64 5]) (by simp [results, Tryz.results17, go_sem, y0, y1, y2, y3]) rfl (HNO.out _ HE.out ?_)
        exact bS4 HBI.out (Nat.le_refl _) _ _ _ _
      have v1 : ((s3.size : Int) != 1) = false := by simp; omega
      by_cases hq : x3 < 0
      · have v2 : decide (x3 < 0) = true := by simpa using hq
        have HE := Lib.hid (HNG.out (by rw [HS3.out, decide_eq_false (show ¬ 0 ≤ x3 by omega), Bool.and_false]))
        clear hz hq
        go_wp2_with fail
        refine (K3.out _ (HM.out.t HBI.out)).mono ?_
        rintro e w3 ⟨rfl, rfl⟩
        go_wp2_with fail
        refine bodyPost_ret (v := .tuple #[.agg #[.string ⟨#[]⟩, .int .i64 0, .int .i64 0, .int .i64 0], .int .i64 5]) (by simp [results, Tryz.results17, go_sem, y0, y1, y2, y3]) rfl (HNO.out _ HE.out ?_)
        exact bS4 HBI.out (Nat.le_refl _) _ _ _ _
      have v2 : decide (x3 < 0) = false := by simpa using hq
      have HGN : Hid (sgB s3 = true) := by unfold Hid; rw [HS3.out, decide_eq_true hz, decide_eq_true (show 0 ≤ x3 by omega)]; rfl
      obtain ⟨r0, r1⟩ : wr.cell? ⟨w.heap.size + 1, 2, none⟩ = some (.int .i64 0) ∧ wr.frozen? ⟨w.heap.size + 1, 2, none⟩ = false := ⟨HR.out.cell 2, HR.out.free 2⟩
      have kk0 : 0 ≤ x3 := by omega
      clear hz hq y0 y1 y2 y3 f0 f1 f2 f3
      go_wp2_with fail
      refine (K3.out _ (HM.out.t HBI.out)).mono ?_
      rintro e w3 ⟨rfl, rfl⟩
      go_wp2_with fail
      go_roundw
      case rel => exact ⟨Or.inr (Or.inr (Or.inr (⟨rfl, HG1.out, HG2.out, HGN.out, HR.out.setJ 2 _⟩))), HYR.out.setO (by omega) 2 _, bS HBI.out (Nat.le_succ _) _⟩
      case measure => simp [intOf]
    · obtain ⟨⟨y0, y1, y2, y3⟩, f0, f1, f2, f3⟩ := HYR.out.a4g
      obtain ⟨r0, r1, r2⟩ : wr.cell? ⟨w.heap.size + 1, 0, none⟩ = some (.int .i64 (x1 - 1)) ∧ wr.cell? ⟨w.heap.size + 1, 1, none⟩ = some (.int .i64 (x2 - 1)) ∧ wr.cell? ⟨w.heap.size + 1, 2, none⟩ = some (.int .i64 (x3 - 1)) := ⟨HR.out.cell 0, HR.out.cell 1, HR.out.cell 2⟩
      have q1 := HC0.out wr HBI.out
      have HF := Lib.hid (fun W hb => HYES.out W ⟨HG1.out, HG2.out, HG3.out⟩ hb)
      go_wp2_with fail
      go_region
      all_goals
        go_wp2_with fail
        refine bodyPost_ret (v := .tuple #[.agg #[.string s0, .int .i64 (x1 - 1), .int .i64 (x2 - 1), .int .i64 (x3 - 1)], .int .i64 0]) (by simp [results, Tryz.results17, go_sem, y0, y1, y2, y3]) rfl (HF.out _ ?_)
        exact bS4 (bD HBI.out 1) (Nat.le_refl _) _ _ _ _
--%%
end Go.Proofs.YtcngmajkkhipoaaGreatDoor
