/-
  Contract of table.contrib: a contribution of words. Conditions as named.
-/
import Derived.Test.YtcngmajkkhipoaaGreatDoorM1
import Derived.Test.YtcngmajkkhipoaaGreatDoorTabR
namespace Go.Proofs.YtcngmajkkhipoaaGreatDoor
set_option linter.unusedVariables false
open Go.RowKit
theorem str_const (s : ByteArray) (l : List UInt8) : (s.toList == l) = decide (s = ⟨l.toArray⟩) := by
  rw [ByteArray.toList_eq]
  by_cases h : s = ⟨l.toArray⟩
  · subst h; simp
  · rw [decide_eq_false h, beq_eq_false_iff_ne]
    intro e
    apply h
    cases s
    simp at e
    subst e
    simp
/-- the base of a word -/
def cwS (s : ByteArray) : Int := if s = ⟨#[116, 97, 120, 97, 98, 108, 101]⟩ then 1 else if s = ⟨#[115, 111, 99, 105, 97, 108]⟩ then 2 else 0
def cwE (n : Nat) (L : List ByteArray) : Int :=
  if n < 5 then 5 else if cwS (L.getD 1 st0) = 0 then 5 else if modeE (L.getD 2 st0) ≠ 0 then modeE (L.getD 2 st0)
  else if parseE (L.getD 3 st0).data.toList ≠ 0 then parseE (L.getD 3 st0).data.toList
  else if parseE (L.getD 4 st0).data.toList ≠ 0 then parseE (L.getD 4 st0).data.toList else rdE true (L.drop 5)
def cwV (L : List ByteArray) : Ct := ⟨L.getD 0 st0, cwS (L.getD 1 st0), rdL true (L.drop 5), parseV (L.getD 3 st0).data.toList, parseV (L.getD 4 st0).data.toList, modeV (L.getD 2 st0)⟩
def ctC (z : Ct) (A : Option Addr) (m c : Nat) : List Value := [.string z.nm, .int .i64 z.base, .slice A m c, .int .i64 z.pc, .int .i64 z.yc, .int .i64 z.rd]
def ContribR (n : Nat) (L : List ByteArray) (w : World) (e : Ending) (w' : World) : Prop :=
  ((cwE n L = 0 ∧ ∃ A m c, e = .returned (.tuple #[.agg (ctC (cwV L) A m c).toArray, .int .i64 0]) ∧ OwnB w' w.heap.size (.slice A m c) m (rdL true (L.drop 5))) ∨ (cwE n L ≠ 0 ∧ e = .returned (.tuple #[.agg #[.string ⟨#[]⟩, .int .i64 0, .slice none 0 0, .int .i64 0, .int .i64 0, .int .i64 0], .int .i64 (cwE n L)]))) ∧ Below w.heap.size w w'
theorem Blk.a6g {w : World} {g : Nat} {t : TypeId} {a b c d e f : Value} (h : Blk w g t #[a, b, c, d, e, f]) : (w.cell? ⟨g, 0, none⟩ = some a ∧ w.cell? ⟨g, 1, none⟩ = some b ∧ w.cell? ⟨g, 2, none⟩ = some c ∧ w.cell? ⟨g, 3, none⟩ = some d ∧ w.cell? ⟨g, 4, none⟩ = some e ∧ w.cell? ⟨g, 5, none⟩ = some f) ∧ (w.frozen? ⟨g, 0, none⟩ = false ∧ w.frozen? ⟨g, 1, none⟩ = false ∧ w.frozen? ⟨g, 2, none⟩ = false ∧ w.frozen? ⟨g, 3, none⟩ = false ∧ w.frozen? ⟨g, 4, none⟩ = false ∧ w.frozen? ⟨g, 5, none⟩ = false) := ⟨⟨h.cell 0, h.cell 1, h.cell 2, h.cell 3, h.cell 4, h.cell 5⟩, h.free 0, h.free 1, h.free 2, h.free 3, h.free 4, h.free 5⟩
theorem bS6 {w0 W : World} (h : Below w0.heap.size w0 W) {b : Nat} (hb : w0.heap.size ≤ b) (v0 v1 v2 v3 v4 v5 : Value) : Below w0.heap.size w0 ((((((W.setCell ⟨b, 0, none⟩ v0).setCell ⟨b, 1, none⟩ v1).setCell ⟨b, 2, none⟩ v2).setCell ⟨b, 3, none⟩ v3).setCell ⟨b, 4, none⟩ v4).setCell ⟨b, 5, none⟩ v5) := bS (bS (bS (bS (bS (bS h hb _) hb _) hb _) hb _) hb _) hb _
theorem own_set6 {w : World} {base size n : Nat} {e : TypeId} {v : Value} {xs : List Value} (h : w.ownsRow base e size v n xs) {g : Nat} {t : TypeId} {cs : Array Value} (hk : Blk w g t cs) (hne : e ≠ t) (v0 v1 v2 v3 v4 v5 : Value) : ((((((w.setCell ⟨g, 0, none⟩ v0).setCell ⟨g, 1, none⟩ v1).setCell ⟨g, 2, none⟩ v2).setCell ⟨g, 3, none⟩ v3).setCell ⟨g, 4, none⟩ v4).setCell ⟨g, 5, none⟩ v5).ownsRow base e size v n xs :=
  h.kept ((((((grown_setJ w g 0 v0).trans (grown_setJ _ g 1 v1)).trans (grown_setJ _ g 2 v2)).trans (grown_setJ _ g 3 v3)).trans (grown_setJ _ g 4 v4)).trans (grown_setJ _ g 5 v5)) (Or.inr fun he => own_blk h hk hne he.symm)
theorem StSl.drop {w : World} {b off n : Nat} {L : List ByteArray} (h : StSl w (some ⟨b, off, none⟩) n L) (j : Nat) (hj : j ≤ n) : StSl w (some ⟨b, off + j, none⟩) (n - j) (L.drop j) := by
  obtain ⟨h1, h2, h3⟩ := h
  refine ⟨by rw [List.length_drop]; omega, by omega, fun h0 => ⟨b, off + j, rfl, ?_, fun k hk => ?_⟩⟩
  · obtain ⟨b', off', he, hlt, _⟩ := h3 (by omega)
    injection he with he
    injection he with e1 _
    subst e1
    exact hlt
  · obtain ⟨b', off', he, _, hat⟩ := h3 (by omega)
    injection he with he
    injection he with e1 e2
    subst e1; subst e2
    have := hat (j + k) (by omega)
    have e : (L.drop j).getD k st0 = L.getD (j + k) st0 := by simp [List.getD, List.getElem?_drop]
    rw [e, show off + j + k * 1 = off + (j + k) * 1 by omega]
    exact this
theorem StSl.none0 {w : World} {A : Option Addr} : StSl w A 0 [] := ⟨rfl, by decide, fun h => absurd h (by decide)⟩
--%%
set_option maxRecDepth 100000 in
set_option maxHeartbeats 6400000 in
theorem tcontrib_c (A : Option Addr) (n c : Nat) (L : List ByteArray) (w : World) (hl : StSl w A n L) (hc : n ≤ c) (hs : ∀ k, k < n → (L.getD k st0).size ≤ 1000000) (hn : n ≤ 1000) (hm : ML w) (ht : TabS w) :
    Calls Tryz.prog 16 #[.slice A n c] w (ContribR n L w) := by
  have HL := Lib.hid hl
  have HM := Lib.hid hm
  have HT := Lib.hid ht
  have HSZ := Lib.hid hs
  have hn9 := hl.2.1
  have HLEN := Lib.hid hl.1
  have HNO : Hid (∀ r W, cwE n L = r → r ≠ 0 → Below w.heap.size w W → ContribR n L w (.returned (.tuple #[.agg #[.string ⟨#[]⟩, .int .i64 0, .slice none 0 0, .int .i64 0, .int .i64 0, .int .i64 0], .int .i64 r])) W) := fun r W e h hb => ⟨Or.inr ⟨by rw [e]; exact h, by rw [e]⟩, hb⟩
  have HB0 := Lib.hid (below1 w (.cells #[.string ⟨#[]⟩, .int .i64 0, .slice none 0 0, .int .i64 0, .int .i64 0, .int .i64 0] 46))
  have HY := Lib.hid (Blk.mk w 46 #[.string ⟨#[]⟩, .int .i64 0, .slice none 0 0, .int .i64 0, .int .i64 0, .int .i64 0])
  clear hl hm ht hs
  by_cases h5 : n < 5
  · have v : decide ((n : Int) < 5) = true := by simp; omega
    have HE : Hid (cwE n L = 5) := by unfold Hid cwE; rw [if_pos h5]
    clear h5
    go_enter Tryz.func16, Tryz.ntmps16
    go_wp2_with fail
    refine bodyPost_ret (v := .tuple #[.agg #[.string ⟨#[]⟩, .int .i64 0, .slice none 0 0, .int .i64 0, .int .i64 0, .int .i64 0], .int .i64 5]) (by simp [results, Tryz.results16, go_sem]) rfl (HNO.out 5 _ HE.out (by decide) ?_)
    exact HB0.out
  have v5 : decide ((n : Int) < 5) = false := by simp; omega
  have n5 : 5 ≤ n := by omega
  obtain ⟨b, off, rfl, hlt, hat⟩ := HL.out.2.2 (by omega)
  have c0 := hat 0 (by omega) 0 _ rfl
  have HZ0 := Lib.hid (HSZ.out 0 (by omega))
  have c1 := hat 1 (by omega) 0 _ rfl
  have HZ1 := Lib.hid (HSZ.out 1 (by omega))
  have c2 := hat 2 (by omega) 0 _ rfl
  have HZ2 := Lib.hid (HSZ.out 2 (by omega))
  have c3 := hat 3 (by omega) 0 _ rfl
  have HZ3 := Lib.hid (HSZ.out 3 (by omega))
  have c4 := hat 4 (by omega) 0 _ rfl
  have HZ4 := Lib.hid (HSZ.out 4 (by omega))
  simp only [Nat.mul_one, Nat.add_zero] at c0 c1 c2 c3 c4
  have HE0 : Hid (cwE n L = if cwS (L.getD 1 st0) = 0 then 5 else if modeE (L.getD 2 st0) ≠ 0 then modeE (L.getD 2 st0) else if parseE (L.getD 3 st0).data.toList ≠ 0 then parseE (L.getD 3 st0).data.toList else if parseE (L.getD 4 st0).data.toList ≠ 0 then parseE (L.getD 4 st0).data.toList else rdE true (L.drop 5)) := by unfold Hid cwE; rw [if_neg h5]
  have HYES : Hid (∀ A m c W, cwE n L = 0 → OwnB W w.heap.size (.slice A m c) m (rdL true (L.drop 5)) → Below w.heap.size w W → ContribR n L w (.returned (.tuple #[.agg #[.string (L.getD 0 st0), .int .i64 (cwS (L.getD 1 st0)), .slice A m c, .int .i64 (parseV (L.getD 3 st0).data.toList), .int .i64 (parseV (L.getD 4 st0).data.toList), .int .i64 (modeV (L.getD 2 st0))], .int .i64 0])) W) := fun A m c W h ho hb => ⟨Or.inl ⟨h, A, m, c, rfl, ho⟩, hb⟩
  have KD : Hid (∀ A0 W, (A0 = some ⟨b, off + 5, none⟩ ∨ n - 5 = 0) → Below w.heap.size w W → ∀ c0, Calls Tryz.prog 15 #[.slice A0 (n - 5) c0, .bool true] W (ReadR true (L.drop 5) (n - 5) W)) := fun A0 W hA hW c0 => by
    have h1 : StSl W A0 (n - 5) (L.drop 5) := by
      rcases hA with rfl | h0
      · exact RowSl.below (HL.out.drop 5 n5) hW
      · rw [h0]
        have : L.drop 5 = [] := List.drop_eq_nil_of_le (by have := HLEN.out; omega)
        rw [this]; exact StSl.none0
    refine tread_c A0 (n - 5) c0 (L.drop 5) true W h1 (fun k hk => ?_) (by omega) (HM.out.t hW)
    have e : (L.drop 5).getD k st0 = L.getD (5 + k) st0 := by simp [List.getD, List.getElem?_drop]
    rw [e]; exact HSZ.out _ (by omega)
  generalize L.getD 0 st0 = s0 at *
  generalize L.getD 1 st0 = s1 at *
  generalize L.getD 2 st0 = s2 at *
  generalize L.getD 3 st0 = s3 at *
  generalize L.getD 4 st0 = s4 at *
  generalize L.drop 5 = LR at *
  have HC2 : Hid (∀ W, Below w.heap.size w W → W.cell? ⟨b, off + 2, none⟩ = some (.string s2)) := fun W hW => (hW.cell (p := ⟨b, _, none⟩) hlt).trans c2
  have HC3 : Hid (∀ W, Below w.heap.size w W → W.cell? ⟨b, off + 3, none⟩ = some (.string s3)) := fun W hW => (hW.cell (p := ⟨b, _, none⟩) hlt).trans c3
  have HC4 : Hid (∀ W, Below w.heap.size w W → W.cell? ⟨b, off + 4, none⟩ = some (.string s4)) := fun W hW => (hW.cell (p := ⟨b, _, none⟩) hlt).trans c4
  have K2 : Hid (∀ W, TabS W → Calls Tryz.prog 14 #[.string s2] W fun e w' => e = .returned (.tuple #[.int .i64 (modeV s2), .int .i64 (modeE s2)]) ∧ Below W.heap.size W w') := fun W h => tmode_c s2 W h
  have K3 := Lib.hid (fun W => parse_any s3 W HZ3.out)
  have K4 := Lib.hid (fun W => parse_any s4 W HZ4.out)
  generalize modeV s2 = v2 at *
  generalize modeE s2 = e2 at *
  generalize parseV s3.data.toList = v3 at *
  generalize parseE s3.data.toList = e3 at *
  generalize parseV s4.data.toList = v4 at *
  generalize parseE s4.data.toList = e4 at *
  have t1 := str_const s1 [116, 97, 120, 97, 98, 108, 101]
  have t2 := str_const s1 [115, 111, 99, 105, 97, 108]
  have hb01 : (s1 = ⟨#[116, 97, 120, 97, 98, 108, 101]⟩ ∧ cwS s1 = 1) ∨ (s1 ≠ ⟨#[116, 97, 120, 97, 98, 108, 101]⟩ ∧ s1 = ⟨#[115, 111, 99, 105, 97, 108]⟩ ∧ cwS s1 = 2) ∨ (s1 ≠ ⟨#[116, 97, 120, 97, 98, 108, 101]⟩ ∧ s1 ≠ ⟨#[115, 111, 99, 105, 97, 108]⟩ ∧ cwS s1 = 0) := by
    by_cases h1 : s1 = ⟨#[116, 97, 120, 97, 98, 108, 101]⟩
    · exact Or.inl ⟨h1, by unfold cwS; rw [if_pos h1]⟩
    · by_cases h2 : s1 = ⟨#[115, 111, 99, 105, 97, 108]⟩
      · exact Or.inr (Or.inl ⟨h1, h2, by unfold cwS; rw [if_neg h1, if_pos h2]⟩)
      · exact Or.inr (Or.inr ⟨h1, h2, by unfold cwS; rw [if_neg h1, if_neg h2]⟩)
  have hcs : ((s1.toList == [116, 97, 120, 97, 98, 108, 101]) = true ∧ Hid (cwS s1 = 1)) ∨ ((s1.toList == [116, 97, 120, 97, 98, 108, 101]) = false ∧ (s1.toList == [115, 111, 99, 105, 97, 108]) = true ∧ Hid (cwS s1 = 2)) ∨ ((s1.toList == [116, 97, 120, 97, 98, 108, 101]) = false ∧ (s1.toList == [115, 111, 99, 105, 97, 108]) = false ∧ Hid (cwS s1 = 0)) := by
    rcases hb01 with ⟨h1, h2⟩ | ⟨h1, h2, h3⟩ | ⟨h1, h2, h3⟩
    · exact Or.inl ⟨by rw [t1]; exact decide_eq_true h1, h2⟩
    · exact Or.inr (Or.inl ⟨by rw [t1]; exact decide_eq_false h1, by rw [t2]; exact decide_eq_true h2, h3⟩)
    · exact Or.inr (Or.inr ⟨by rw [t1]; exact decide_eq_false h1, by rw [t2]; exact decide_eq_false h2, h3⟩)
  have HYN := Lib.hid (HY.out.alloc (.cells #[.string s0, .int .i64 0, .slice none 0 0, .int .i64 0, .int .i64 0, .int .i64 0] 46))
  have x := Blk.mk (w.alloc (.cells #[.string ⟨#[]⟩, .int .i64 0, .slice none 0 0, .int .i64 0, .int .i64 0, .int .i64 0] 46)) 46 #[.string s0, .int .i64 0, .slice none 0 0, .int .i64 0, .int .i64 0, .int .i64 0]
  rw [World.size_alloc] at x
  have HX := Lib.hid x
  have HB1 := Lib.hid (bA HB0.out (.cells #[.string s0, .int .i64 0, .slice none 0 0, .int .i64 0, .int .i64 0, .int .i64 0] 46))
  clear t1 t2 hb01 h5 hat x c2 c3 c4
  rcases hcs with ⟨u1, HS⟩ | ⟨u1, u2, HS⟩ | ⟨u1, u2, HS⟩
  case' inr.inr =>
    have HE : Hid (cwE n L = 5) := by unfold Hid; rw [HE0.out, if_pos HS.out]
    go_enter Tryz.func16, Tryz.ntmps16
    go_wp2_with fail
    refine bodyPost_ret (v := .tuple #[.agg #[.string ⟨#[]⟩, .int .i64 0, .slice none 0 0, .int .i64 0, .int .i64 0, .int .i64 0], .int .i64 5]) (by simp [results, Tryz.results16, go_sem]) rfl (HNO.out 5 _ HE.out (by decide) ?_)
    exact HB1.out
  case' inl =>
    have HE1 : Hid (cwE n L = if e2 ≠ 0 then e2 else if e3 ≠ 0 then e3 else if e4 ≠ 0 then e4 else rdE true LR) := by unfold Hid; rw [HE0.out, if_neg (by rw [HS.out]; decide)]
    rw [HS.out] at HYES
    have q2 := HC2.out _ HB0.out
    have ne1 : ¬ b = w.heap.size + 1 := by omega
    have ne2 : ¬ w.heap.size + 1 = b := by omega
    have HYN := Lib.hid (HY.out.alloc (.cells #[.string s0, .int .i64 1, .slice none 0 0, .int .i64 0, .int .i64 0, .int .i64 0] 46))
    have x := Blk.mk (w.alloc (.cells #[.string ⟨#[]⟩, .int .i64 0, .slice none 0 0, .int .i64 0, .int .i64 0, .int .i64 0] 46)) 46 #[.string s0, .int .i64 1, .slice none 0 0, .int .i64 0, .int .i64 0, .int .i64 0]
    rw [World.size_alloc] at x
    have HX := Lib.hid x
    have HB1 := Lib.hid (bA HB0.out (.cells #[.string s0, .int .i64 1, .slice none 0 0, .int .i64 0, .int .i64 0, .int .i64 0] 46))
    clear x HE0 HS
    go_enter Tryz.func16, Tryz.ntmps16
    go_wp2_with fail
    refine (K2.out _ (HT.out.t HB1.out)).mono ?_
    rintro e w2 ⟨rfl, hb2⟩
    clear q2
    have HB2 := Lib.hid (bT HB1.out hb2)
    have HX2 := Lib.hid (Blk.t HX.out hb2)
    have HY2 := Lib.hid (Blk.t HYN.out hb2)
    clear hb2
    obtain ⟨⟨x0, x1, x2, x3, x4, x5⟩, g0, g1, g2, g3, g4, g5⟩ := HX2.out.a6g
    obtain ⟨⟨y0, y1, y2, y3, y4, y5⟩, f0, f1, f2, f3, f4, f5⟩ := HY2.out.a6g
    by_cases he2 : e2 = 0
    case neg =>
      have u9 : (e2 != 0) = true := by simpa using he2
      have HW : Hid (cwE n L = e2) := by unfold Hid; rw [HE1.out, if_pos he2]
      have HNZ := Lib.hid he2
      clear he2
      go_wp2_with fail
      refine bodyPost_ret (v := .tuple #[.agg #[.string ⟨#[]⟩, .int .i64 0, .slice none 0 0, .int .i64 0, .int .i64 0, .int .i64 0], .int .i64 e2]) (by simp [results, Tryz.results16, go_sem, y0, y1, y2, y3, y4, y5]) rfl (HNO.out e2 _ HW.out HNZ.out ?_)
      exact bS6 (bS HB2.out (Nat.le_succ _) _) (Nat.le_refl _) _ _ _ _ _ _
    subst he2
    have HE2 := Lib.hid (HE1.out.trans (if_neg (fun h => h rfl)))
    have HX2s : Hid (Blk (w2.setCell ⟨w.heap.size + 1, 5, none⟩ (.int .i64 v2)) (w.heap.size + 1) 46 #[.string s0, .int .i64 1, .slice none 0 0, .int .i64 0, .int .i64 0, .int .i64 v2]) := HX2.out.setJ 5 _
    have HY2s := Lib.hid (HY2.out.setO (show w.heap.size ≠ w.heap.size + 1 by omega) 5 (.int .i64 v2))
    have HB2s := Lib.hid (bS (p := ⟨w.heap.size + 1, 5, none⟩) HB2.out (Nat.le_succ _) (.int .i64 v2))
    have q9 := HC3.out w2 HB2.out
    clear y0 y1 y2 y3 y4 y5 f0 f1 f2 f3 f4 f5
    go_wp2_with fail
    clear q9 x0 x1 x2 x3 x4 x5 g0 g1 g2 g3 g4 g5
    refine (K3.out _).mono ?_
    rintro e w3 ⟨rfl, hb3⟩
    have HB3 := Lib.hid (bT HB2s.out hb3)
    have HX3 := Lib.hid (Blk.t HX2s.out hb3)
    have HY3 := Lib.hid (Blk.t HY2s.out hb3)
    clear hb3
    obtain ⟨⟨x0, x1, x2, x3, x4, x5⟩, g0, g1, g2, g3, g4, g5⟩ := HX3.out.a6g
    obtain ⟨⟨y0, y1, y2, y3, y4, y5⟩, f0, f1, f2, f3, f4, f5⟩ := HY3.out.a6g
    by_cases he3 : e3 = 0
    case neg =>
      have u9 : (e3 != 0) = true := by simpa using he3
      have HW : Hid (cwE n L = e3) := by unfold Hid; rw [HE2.out, if_pos he3]
      have HNZ := Lib.hid he3
      clear he3
      go_wp2_with fail
      refine bodyPost_ret (v := .tuple #[.agg #[.string ⟨#[]⟩, .int .i64 0, .slice none 0 0, .int .i64 0, .int .i64 0, .int .i64 0], .int .i64 e3]) (by simp [results, Tryz.results16, go_sem, y0, y1, y2, y3, y4, y5]) rfl (HNO.out e3 _ HW.out HNZ.out ?_)
      exact bS6 (bS HB3.out (Nat.le_succ _) _) (Nat.le_refl _) _ _ _ _ _ _
    subst he3
    have HE3 := Lib.hid (HE2.out.trans (if_neg (fun h => h rfl)))
    have HX3s : Hid (Blk (w3.setCell ⟨w.heap.size + 1, 3, none⟩ (.int .i64 v3)) (w.heap.size + 1) 46 #[.string s0, .int .i64 1, .slice none 0 0, .int .i64 v3, .int .i64 0, .int .i64 v2]) := HX3.out.setJ 3 _
    have HY3s := Lib.hid (HY3.out.setO (show w.heap.size ≠ w.heap.size + 1 by omega) 3 (.int .i64 v3))
    have HB3s := Lib.hid (bS (p := ⟨w.heap.size + 1, 3, none⟩) HB3.out (Nat.le_succ _) (.int .i64 v3))
    have q9 := HC4.out w3 HB3.out
    clear y0 y1 y2 y3 y4 y5 f0 f1 f2 f3 f4 f5
    go_wp2_with fail
    clear q9 x0 x1 x2 x3 x4 x5 g0 g1 g2 g3 g4 g5
    refine (K4.out _).mono ?_
    rintro e w4 ⟨rfl, hb4⟩
    have HB4 := Lib.hid (bT HB3s.out hb4)
    have HX4 := Lib.hid (Blk.t HX3s.out hb4)
    have HY4 := Lib.hid (Blk.t HY3s.out hb4)
    clear hb4
    obtain ⟨⟨x0, x1, x2, x3, x4, x5⟩, g0, g1, g2, g3, g4, g5⟩ := HX4.out.a6g
    obtain ⟨⟨y0, y1, y2, y3, y4, y5⟩, f0, f1, f2, f3, f4, f5⟩ := HY4.out.a6g
    by_cases he4 : e4 = 0
    case neg =>
      have u9 : (e4 != 0) = true := by simpa using he4
      have HW : Hid (cwE n L = e4) := by unfold Hid; rw [HE3.out, if_pos he4]
      have HNZ := Lib.hid he4
      clear he4
      go_wp2_with fail
      refine bodyPost_ret (v := .tuple #[.agg #[.string ⟨#[]⟩, .int .i64 0, .slice none 0 0, .int .i64 0, .int .i64 0, .int .i64 0], .int .i64 e4]) (by simp [results, Tryz.results16, go_sem, y0, y1, y2, y3, y4, y5]) rfl (HNO.out e4 _ HW.out HNZ.out ?_)
      exact bS6 (bS HB4.out (Nat.le_succ _) _) (Nat.le_refl _) _ _ _ _ _ _
    subst he4
    have HE4 := Lib.hid (HE3.out.trans (if_neg (fun h => h rfl)))
    have HX4s : Hid (Blk (w4.setCell ⟨w.heap.size + 1, 4, none⟩ (.int .i64 v4)) (w.heap.size + 1) 46 #[.string s0, .int .i64 1, .slice none 0 0, .int .i64 v3, .int .i64 v4, .int .i64 v2]) := HX4.out.setJ 4 _
    have HY4s := Lib.hid (HY4.out.setO (show w.heap.size ≠ w.heap.size + 1 by omega) 4 (.int .i64 v4))
    have HB4s := Lib.hid (bS (p := ⟨w.heap.size + 1, 4, none⟩) HB4.out (Nat.le_succ _) (.int .i64 v4))
    clear y0 y1 y2 y3 y4 y5 f0 f1 f2 f3 f4 f5
    have hcap : 5 ≤ c := by omega
    have HREAD : Hid (∀ A0, (A0 = some ⟨b, off + 5, none⟩ ∨ n - 5 = 0) → ∀ c0, Calls Tryz.prog 15 #[.slice A0 (n - 5) c0, .bool true] (w4.setCell ⟨w.heap.size + 1, 4, none⟩ (.int .i64 v4)) (ReadR true LR (n - 5) (w4.setCell ⟨w.heap.size + 1, 4, none⟩ (.int .i64 v4)))) := fun A0 h c0 => KD.out A0 _ h HB4s.out c0
    by_cases hc5 : c = 5
    case' pos =>
      have hn5 : n = 5 := by omega
      subst hc5; subst hn5
      go_wp2_with fail
      refine (HREAD.out _ (Or.inr (by first | trivial | rfl)) _).mono ?_
    case' neg =>
      have kk1 : (5 : Int) ≤ (n : Int) := by omega
      have kk2 : (5 : Int) < (c : Int) := by omega
      have kk3 : 5 < c := by omega
      have kk4 : n ≤ c := hc
      go_wp2_with fail
      refine (HREAD.out _ (Or.inl rfl) _).mono ?_
    all_goals
      rintro e w5 ⟨hr, hb5⟩
      have HB5 := Lib.hid (bT HB4s.out hb5)
      have HX5 := Lib.hid (HX4s.out.t hb5)
      have HY5 := Lib.hid (HY4s.out.t hb5)
      have hs45 := HB4s.out.size
      clear hb5 x0 x1 x2 x3 x4 x5 g0 g1 g2 g3 g4 g5
      obtain ⟨⟨x0, x1, x2, x3, x4, x5⟩, g0, g1, g2, g3, g4, g5⟩ := HX5.out.a6g
      obtain ⟨⟨y0, y1, y2, y3, y4, y5⟩, f0, f1, f2, f3, f4, f5⟩ := HY5.out.a6g
      rcases hr with ⟨h0, v, rfl, ho⟩ | ⟨h0, rfl⟩
      · obtain ⟨A5, c5, rfl⟩ := own_slice ho.2
        have HO := Lib.hid ho
        have HW := Lib.hid (HE4.out.trans h0)
        clear h0 ho
        go_wp2_with fail
        refine bodyPost_ret (v := .tuple #[.agg #[.string s0, .int .i64 1, .slice A5 _ c5, .int .i64 v3, .int .i64 v4, .int .i64 v2], .int .i64 0]) (by simp [results, Tryz.results16, go_sem, y0, y1, y2, y3, y4, y5]) rfl (HYES.out A5 _ c5 _ HW.out ⟨HO.out.1, ?_⟩ ?_)
        · exact own_more (own_set6 (own_setO HO.out.2 HX5.out (by decide) 2 _) (HY5.out.setO (show w.heap.size ≠ w.heap.size + 1 by omega) 2 _) (by decide) _ _ _ _ _ _) hs45
        · exact bS6 (bS HB5.out (Nat.le_succ _) _) (Nat.le_refl _) _ _ _ _ _ _
      · have HNZ := Lib.hid h0
        have u9 : (rdE true LR != 0) = true := by simpa using h0
        clear h0
        go_wp2_with fail
        refine bodyPost_ret (v := .tuple #[.agg #[.string ⟨#[]⟩, .int .i64 0, .slice none 0 0, .int .i64 0, .int .i64 0, .int .i64 0], .int .i64 (rdE true LR)]) (by simp [results, Tryz.results16, go_sem, y0, y1, y2, y3, y4, y5]) rfl (HNO.out _ _ HE4.out HNZ.out ?_)
        exact bS6 (bS HB5.out (Nat.le_succ _) _) (Nat.le_refl _) _ _ _ _ _ _
  case' inr.inl =>
    have HE1 : Hid (cwE n L = if e2 ≠ 0 then e2 else if e3 ≠ 0 then e3 else if e4 ≠ 0 then e4 else rdE true LR) := by unfold Hid; rw [HE0.out, if_neg (by rw [HS.out]; decide)]
    rw [HS.out] at HYES
    have q2 := HC2.out _ HB0.out
    have ne1 : ¬ b = w.heap.size + 1 := by omega
    have ne2 : ¬ w.heap.size + 1 = b := by omega
    have HYN := Lib.hid (HY.out.alloc (.cells #[.string s0, .int .i64 2, .slice none 0 0, .int .i64 0, .int .i64 0, .int .i64 0] 46))
    have x := Blk.mk (w.alloc (.cells #[.string ⟨#[]⟩, .int .i64 0, .slice none 0 0, .int .i64 0, .int .i64 0, .int .i64 0] 46)) 46 #[.string s0, .int .i64 2, .slice none 0 0, .int .i64 0, .int .i64 0, .int .i64 0]
    rw [World.size_alloc] at x
    have HX := Lib.hid x
    have HB1 := Lib.hid (bA HB0.out (.cells #[.string s0, .int .i64 2, .slice none 0 0, .int .i64 0, .int .i64 0, .int .i64 0] 46))
    clear x HE0 HS
    go_enter Tryz.func16, Tryz.ntmps16
    go_wp2_with fail
    refine (K2.out _ (HT.out.t HB1.out)).mono ?_
    rintro e w2 ⟨rfl, hb2⟩
    clear q2
    have HB2 := Lib.hid (bT HB1.out hb2)
    have HX2 := Lib.hid (Blk.t HX.out hb2)
    have HY2 := Lib.hid (Blk.t HYN.out hb2)
    clear hb2
    obtain ⟨⟨x0, x1, x2, x3, x4, x5⟩, g0, g1, g2, g3, g4, g5⟩ := HX2.out.a6g
    obtain ⟨⟨y0, y1, y2, y3, y4, y5⟩, f0, f1, f2, f3, f4, f5⟩ := HY2.out.a6g
    by_cases he2 : e2 = 0
    case neg =>
      have u9 : (e2 != 0) = true := by simpa using he2
      have HW : Hid (cwE n L = e2) := by unfold Hid; rw [HE1.out, if_pos he2]
      have HNZ := Lib.hid he2
      clear he2
      go_wp2_with fail
      refine bodyPost_ret (v := .tuple #[.agg #[.string ⟨#[]⟩, .int .i64 0, .slice none 0 0, .int .i64 0, .int .i64 0, .int .i64 0], .int .i64 e2]) (by simp [results, Tryz.results16, go_sem, y0, y1, y2, y3, y4, y5]) rfl (HNO.out e2 _ HW.out HNZ.out ?_)
      exact bS6 (bS HB2.out (Nat.le_succ _) _) (Nat.le_refl _) _ _ _ _ _ _
    subst he2
    have HE2 := Lib.hid (HE1.out.trans (if_neg (fun h => h rfl)))
    have HX2s : Hid (Blk (w2.setCell ⟨w.heap.size + 1, 5, none⟩ (.int .i64 v2)) (w.heap.size + 1) 46 #[.string s0, .int .i64 2, .slice none 0 0, .int .i64 0, .int .i64 0, .int .i64 v2]) := HX2.out.setJ 5 _
    have HY2s := Lib.hid (HY2.out.setO (show w.heap.size ≠ w.heap.size + 1 by omega) 5 (.int .i64 v2))
    have HB2s := Lib.hid (bS (p := ⟨w.heap.size + 1, 5, none⟩) HB2.out (Nat.le_succ _) (.int .i64 v2))
    have q9 := HC3.out w2 HB2.out
    clear y0 y1 y2 y3 y4 y5 f0 f1 f2 f3 f4 f5
    go_wp2_with fail
    clear q9 x0 x1 x2 x3 x4 x5 g0 g1 g2 g3 g4 g5
    refine (K3.out _).mono ?_
    rintro e w3 ⟨rfl, hb3⟩
    have HB3 := Lib.hid (bT HB2s.out hb3)
    have HX3 := Lib.hid (Blk.t HX2s.out hb3)
    have HY3 := Lib.hid (Blk.t HY2s.out hb3)
    clear hb3
    obtain ⟨⟨x0, x1, x2, x3, x4, x5⟩, g0, g1, g2, g3, g4, g5⟩ := HX3.out.a6g
    obtain ⟨⟨y0, y1, y2, y3, y4, y5⟩, f0, f1, f2, f3, f4, f5⟩ := HY3.out.a6g
    by_cases he3 : e3 = 0
    case neg =>
      have u9 : (e3 != 0) = true := by simpa using he3
      have HW : Hid (cwE n L = e3) := by unfold Hid; rw [HE2.out, if_pos he3]
      have HNZ := Lib.hid he3
      clear he3
      go_wp2_with fail
      refine bodyPost_ret (v := .tuple #[.agg #[.string ⟨#[]⟩, .int .i64 0, .slice none 0 0, .int .i64 0, .int .i64 0, .int .i64 0], .int .i64 e3]) (by simp [results, Tryz.results16, go_sem, y0, y1, y2, y3, y4, y5]) rfl (HNO.out e3 _ HW.out HNZ.out ?_)
      exact bS6 (bS HB3.out (Nat.le_succ _) _) (Nat.le_refl _) _ _ _ _ _ _
    subst he3
    have HE3 := Lib.hid (HE2.out.trans (if_neg (fun h => h rfl)))
    have HX3s : Hid (Blk (w3.setCell ⟨w.heap.size + 1, 3, none⟩ (.int .i64 v3)) (w.heap.size + 1) 46 #[.string s0, .int .i64 2, .slice none 0 0, .int .i64 v3, .int .i64 0, .int .i64 v2]) := HX3.out.setJ 3 _
    have HY3s := Lib.hid (HY3.out.setO (show w.heap.size ≠ w.heap.size + 1 by omega) 3 (.int .i64 v3))
    have HB3s := Lib.hid (bS (p := ⟨w.heap.size + 1, 3, none⟩) HB3.out (Nat.le_succ _) (.int .i64 v3))
    have q9 := HC4.out w3 HB3.out
    clear y0 y1 y2 y3 y4 y5 f0 f1 f2 f3 f4 f5
    go_wp2_with fail
    clear q9 x0 x1 x2 x3 x4 x5 g0 g1 g2 g3 g4 g5
    refine (K4.out _).mono ?_
    rintro e w4 ⟨rfl, hb4⟩
    have HB4 := Lib.hid (bT HB3s.out hb4)
    have HX4 := Lib.hid (Blk.t HX3s.out hb4)
    have HY4 := Lib.hid (Blk.t HY3s.out hb4)
    clear hb4
    obtain ⟨⟨x0, x1, x2, x3, x4, x5⟩, g0, g1, g2, g3, g4, g5⟩ := HX4.out.a6g
    obtain ⟨⟨y0, y1, y2, y3, y4, y5⟩, f0, f1, f2, f3, f4, f5⟩ := HY4.out.a6g
    by_cases he4 : e4 = 0
    case neg =>
      have u9 : (e4 != 0) = true := by simpa using he4
      have HW : Hid (cwE n L = e4) := by unfold Hid; rw [HE3.out, if_pos he4]
      have HNZ := Lib.hid he4
      clear he4
      go_wp2_with fail
      refine bodyPost_ret (v := .tuple #[.agg #[.string ⟨#[]⟩, .int .i64 0, .slice none 0 0, .int .i64 0, .int .i64 0, .int .i64 0], .int .i64 e4]) (by simp [results, Tryz.results16, go_sem, y0, y1, y2, y3, y4, y5]) rfl (HNO.out e4 _ HW.out HNZ.out ?_)
      exact bS6 (bS HB4.out (Nat.le_succ _) _) (Nat.le_refl _) _ _ _ _ _ _
    subst he4
    have HE4 := Lib.hid (HE3.out.trans (if_neg (fun h => h rfl)))
    have HX4s : Hid (Blk (w4.setCell ⟨w.heap.size + 1, 4, none⟩ (.int .i64 v4)) (w.heap.size + 1) 46 #[.string s0, .int .i64 2, .slice none 0 0, .int .i64 v3, .int .i64 v4, .int .i64 v2]) := HX4.out.setJ 4 _
    have HY4s := Lib.hid (HY4.out.setO (show w.heap.size ≠ w.heap.size + 1 by omega) 4 (.int .i64 v4))
    have HB4s := Lib.hid (bS (p := ⟨w.heap.size + 1, 4, none⟩) HB4.out (Nat.le_succ _) (.int .i64 v4))
    clear y0 y1 y2 y3 y4 y5 f0 f1 f2 f3 f4 f5
    have hcap : 5 ≤ c := by omega
    have HREAD : Hid (∀ A0, (A0 = some ⟨b, off + 5, none⟩ ∨ n - 5 = 0) → ∀ c0, Calls Tryz.prog 15 #[.slice A0 (n - 5) c0, .bool true] (w4.setCell ⟨w.heap.size + 1, 4, none⟩ (.int .i64 v4)) (ReadR true LR (n - 5) (w4.setCell ⟨w.heap.size + 1, 4, none⟩ (.int .i64 v4)))) := fun A0 h c0 => KD.out A0 _ h HB4s.out c0
    by_cases hc5 : c = 5
    case' pos =>
      have hn5 : n = 5 := by omega
      subst hc5; subst hn5
      go_wp2_with fail
      refine (HREAD.out _ (Or.inr (by first | trivial | rfl)) _).mono ?_
    case' neg =>
      have kk1 : (5 : Int) ≤ (n : Int) := by omega
      have kk2 : (5 : Int) < (c : Int) := by omega
      have kk3 : 5 < c := by omega
      have kk4 : n ≤ c := hc
      go_wp2_with fail
      refine (HREAD.out _ (Or.inl rfl) _).mono ?_
    all_goals
      rintro e w5 ⟨hr, hb5⟩
      have HB5 := Lib.hid (bT HB4s.out hb5)
      have HX5 := Lib.hid (HX4s.out.t hb5)
      have HY5 := Lib.hid (HY4s.out.t hb5)
      have hs45 := HB4s.out.size
      clear hb5 x0 x1 x2 x3 x4 x5 g0 g1 g2 g3 g4 g5
      obtain ⟨⟨x0, x1, x2, x3, x4, x5⟩, g0, g1, g2, g3, g4, g5⟩ := HX5.out.a6g
      obtain ⟨⟨y0, y1, y2, y3, y4, y5⟩, f0, f1, f2, f3, f4, f5⟩ := HY5.out.a6g
      rcases hr with ⟨h0, v, rfl, ho⟩ | ⟨h0, rfl⟩
      · obtain ⟨A5, c5, rfl⟩ := own_slice ho.2
        have HO := Lib.hid ho
        have HW := Lib.hid (HE4.out.trans h0)
        clear h0 ho
        go_wp2_with fail
        refine bodyPost_ret (v := .tuple #[.agg #[.string s0, .int .i64 2, .slice A5 _ c5, .int .i64 v3, .int .i64 v4, .int .i64 v2], .int .i64 0]) (by simp [results, Tryz.results16, go_sem, y0, y1, y2, y3, y4, y5]) rfl (HYES.out A5 _ c5 _ HW.out ⟨HO.out.1, ?_⟩ ?_)
        · exact own_more (own_set6 (own_setO HO.out.2 HX5.out (by decide) 2 _) (HY5.out.setO (show w.heap.size ≠ w.heap.size + 1 by omega) 2 _) (by decide) _ _ _ _ _ _) hs45
        · exact bS6 (bS HB5.out (Nat.le_succ _) _) (Nat.le_refl _) _ _ _ _ _ _
      · have HNZ := Lib.hid h0
        have u9 : (rdE true LR != 0) = true := by simpa using h0
        clear h0
        go_wp2_with fail
        refine bodyPost_ret (v := .tuple #[.agg #[.string ⟨#[]⟩, .int .i64 0, .slice none 0 0, .int .i64 0, .int .i64 0, .int .i64 0], .int .i64 (rdE true LR)]) (by simp [results, Tryz.results16, go_sem, y0, y1, y2, y3, y4, y5]) rfl (HNO.out _ _ HE4.out HNZ.out ?_)
        exact bS6 (bS HB5.out (Nat.le_succ _) _) (Nat.le_refl _) _ _ _ _ _ _
--%%
end Go.Proofs.YtcngmajkkhipoaaGreatDoor
