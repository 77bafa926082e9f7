/-
  Contracts of package pair: rounding both sides; totals. Conditions as named.
-/
import Derived.Test.YtpheeblpfcipaaaPair2
import Derived.Test.YtpheeblpfcipaaaVoc2
namespace Go.Proofs.Ytpheeblpfcipaaa
set_option linter.unusedVariables false
open Go.RowKit
--%%
/-- both sides rounded -/
theorem pcoins_t (x y : Nat) (a b mode : Int) (hx : Rep x a) (hy : Rep y b) (ha : in53 a = true) (hb : in53 b = true) (hm : modeB mode = true) (w : World) :
    Calls Try.prog 23 #[.complex .f64 x y, .int .i64 mode] w fun e w' => e = .returned (.tuple #[.agg #[.int .i64 (roundI a 10000 mode), .int .i64 (roundI b 10000 mode)], .int .i64 0]) ∧ Below w.heap.size w w' := by
  have ha' := in53_iff.1 ha
  have hb' := in53_iff.1 hb
  have HA := Lib.hid (round_c a 10000 mode · (by omega) (by omega) (by decide) (by decide) hm)
  have HB := Lib.hid (round_c b 10000 mode · (by omega) (by omega) (by decide) (by decide) hm)
  generalize roundI a 10000 mode = ra at *
  generalize roundI b 10000 mode = rb at *
  go_enter Try.func23, Try.ntmps23
  go_wp2_with fail
  refine (sides_c x y a b hx hy ha hb _).mono ?_
  rintro e w' ⟨rfl, rfl⟩
  go_wp2_with fail
  refine (HA.out _).mono ?_
  rintro e w1 ⟨rfl, hb1⟩
  obtain ⟨hc1, hf1⟩ := bcell hb1
  have hz1 : w.heap.size < w1.heap.size := by have := hb1.size; simp at this; omega
  go_wp2_with fail
  refine (HB.out _).mono ?_
  rintro e w2 ⟨rfl, hb2⟩
  obtain ⟨hc2, hf2⟩ := bcell hb2
  go_wp2_with fail
  exact bodyPost_ret (v := .tuple #[.agg #[.int .i64 ra, .int .i64 rb], .int .i64 0]) (by simp [results, Try.results23, go_sem, hc1, hc2, hz1]) rfl ⟨rfl, (((below1 _ _).trans ((hb1.mono (by simp)).trans (hb2.mono (by omega)))).setCell (Nat.le_refl _) _).setCell (Nat.le_refl _) _⟩
--%%
/-- a share: the employee's side and the employer's -/
structure Sh where
  a : Int
  b : Int
def sh0 : Sh := ⟨0, 0⟩
def SharesAt (w : World) (b off : Nat) (l : List Sh) : Prop := ∀ k, k < l.length → w.cell? ⟨b, off + k * 2, none⟩ = some (.int .i64 (l.getD k sh0).a) ∧ w.cell? ⟨b, off + k * 2 + 1, none⟩ = some (.int .i64 (l.getD k sh0).b)
def ShareSl (w : World) (A : Option Addr) (n : Nat) (l : List Sh) : Prop := n = l.length ∧ n ≤ 9223372036854775807 ∧ (0 < n → ∃ b off, A = some ⟨b, off, none⟩ ∧ b < w.heap.size ∧ SharesAt w b off l)
/-- sums of the first ones -/
def sumTo (f : Nat → Int) : Nat → Int
  | 0 => 0
  | k + 1 => sumTo f k + f k
/-- may the share at k be put to those ahead of it? -/
def totAt (l : List Sh) (k : Nat) : Bool := mrB (l.getD k sh0).a && mrB (l.getD k sh0).b && mrB (sumTo (fun i => (l.getD i sh0).a) (k + 1)) && mrB (sumTo (fun i => (l.getD i sh0).b) (k + 1))
def Tot (l : List Sh) (n : Nat) (w : World) (x : Ending) (w' : World) : Prop :=
  (((∀ k, k < n → totAt l k = true) ∧ x = .returned (.tuple #[.agg #[.int .i64 (sumTo (fun i => (l.getD i sh0).a) n), .int .i64 (sumTo (fun i => (l.getD i sh0).b) n)], .int .i64 0])) ∨
   ((∃ k, k < n ∧ totAt l k = false) ∧ x = .returned (.tuple #[.agg #[.int .i64 0, .int .i64 0], .int .i64 10]))) ∧ Below w.heap.size w w'
set_option maxHeartbeats 1000000 in
theorem total_c (l : List Sh) (A : Option Addr) (n c : Nat) (w : World) (h : ShareSl w A n l) : Calls Try.prog 27 #[.slice A n c] w (Tot l n w) := by
  obtain ⟨hn, hm, hc⟩ := h
  have Hn := Lib.hid hn
  clear hn
  have HC := Lib.hid hc
  clear hc
  go_enter Try.func27, Try.ntmps27
  go_wp2
  go_loopw [12] (fun i wr => ∃ (k : Nat) (sa sb : Int), k ≤ n ∧ i = .int .i64 k ∧ Hid (sa = sumTo (fun i => (l.getD i sh0).a) k) ∧ Hid (sb = sumTo (fun i => (l.getD i sh0).b) k) ∧ Hid (∀ j, j < k → totAt l j = true) ∧ mrB sa = true ∧ mrB sb = true ∧
      Below w.heap.size w wr ∧ Blk wr w.heap.size 33 #[.int .i64 0, .int .i64 0] ∧ Blk wr (w.heap.size + 1) 33 #[.int .i64 sa, .int .i64 sb]) (fun i _ => n - (intOf i).toNat)
  case atStart => exact ⟨0, 0, 0, Nat.zero_le _, rfl, rfl, rfl, fun j hj => by omega, by decide, by decide, (below1 _ _).alloc (by simp) _, (Blk.mk _ _ _).alloc _, by
    have := Blk.mk (w.alloc (.cells #[.int .i64 0, .int .i64 0] 33)) 33 #[.int .i64 0, .int .i64 0]
    rwa [World.size_alloc] at this⟩
  case round =>
    obtain ⟨k, sa, sb, hk', rfl, hsa, hsb, hok, ma, mb, hbl, z0, z1⟩ := hrel
    obtain ⟨r0, r1, f0, f1⟩ := z0.all2
    obtain ⟨a0, a1, e0, e1⟩ := z1.all2
    have hl1 := z1.lt
    by_cases hk : k < n
    case neg =>
      have ekn : n = k := by omega
      go_wp2_with fail
      exact bodyPost_ret (v := .tuple #[.agg #[.int .i64 sa, .int .i64 sb], .int .i64 0]) (by simp [results, Try.results27, go_sem, r0, r1]) rfl ⟨Or.inl ⟨by rw [ekn]; exact hok.out, by rw [ekn, hsa.out, hsb.out]⟩, (hbl.setCell (Nat.le_refl _) _).setCell (Nat.le_refl _) _⟩
    obtain ⟨b, off, rfl, hb, hc⟩ := HC.out (by omega)
    obtain ⟨c0, c1⟩ := hc k (by rw [← Hn.out]; exact hk)
    rw [← hbl.cell (p := ⟨b, _, none⟩) hb] at c0 c1
    have htk : totAt l k = (mrB (l.getD k sh0).a && mrB (l.getD k sh0).b && mrB (sa + (l.getD k sh0).a) && mrB (sb + (l.getD k sh0).b)) := by
      rw [totAt, sumTo, sumTo, ← hsa.out, ← hsb.out]
    have n1 : Hid (sa + (l.getD k sh0).a = sumTo (fun i => (l.getD i sh0).a) (k + 1)) := by unfold Hid; rw [sumTo, ← hsa.out]
    have n2 : Hid (sb + (l.getD k sh0).b = sumTo (fun i => (l.getD i sh0).b) (k + 1)) := by unfold Hid; rw [sumTo, ← hsb.out]
    have HT := Lib.hid htk
    clear htk hc
    have hsz := hbl.size
    generalize (l.getD k sh0).a = x at *
    generalize (l.getD k sh0).b = y at *
    by_cases o1 : mrB sa = true ∧ mrB x = true ∧ mrB (sa + x) = true
    case neg =>
      have hbad : totAt l k = false := by
        rw [HT.out]
        cases h1 : mrB x <;> cases h2 : mrB (sa + x) <;> simp [h1, h2]
        exact absurd ⟨ma, h1, h2⟩ o1
      have HBad := Lib.hid hbad
      have O1 := Lib.hid o1
      clear hbad o1
      go_wp2_with fail
      refine (add_f sa x _ O1.out).mono ?_
      rintro e w1 ⟨rfl, hb1⟩
      have y0 := ((z0.alloc _).below hb1 (by simp; omega))
      have y1 := ((z1.alloc _).below hb1 (by simp; omega))
      have ys := ((Blk.mk wr _ _).below hb1 (by simp))
      obtain ⟨p1, p2, p3, p4⟩ := y0.all2
      obtain ⟨p5, p6, p7, p8⟩ := y1.all2
      obtain ⟨p9, p10, p11, p12⟩ := ys.all2
      have bl1 : Below w.heap.size w w1 := (hbl.alloc hbl.size _).trans (hb1.mono (by simp; omega))
      have hbad := HBad.out
      clear HBad
      have HBad := Lib.hid hbad
      clear hbad
      go_wp2_with fail
      exact bodyPost_ret (v := .tuple #[.agg #[.int .i64 0, .int .i64 0], .int .i64 10]) (by simp [results, Try.results27, go_sem, p1, p2]) rfl ⟨Or.inr ⟨⟨k, hk, HBad.out⟩, rfl⟩, (bl1.setCell (Nat.le_refl _) _).setCell (Nat.le_refl _) _⟩
    obtain ⟨o1a, o1b, o1c⟩ := o1
    by_cases o2 : mrB sb = true ∧ mrB y = true ∧ mrB (sb + y) = true
    case neg =>
      have hbad : totAt l k = false := by
        rw [HT.out]
        cases h1 : mrB y <;> cases h2 : mrB (sb + y) <;> simp [h1, h2]
        exact absurd ⟨mb, h1, h2⟩ o2
      have HBad := Lib.hid hbad
      have O2 := Lib.hid o2
      clear hbad o2
      go_wp2_with fail
      refine (add_t sa x _ o1a o1b o1c).mono ?_
      rintro e w1 ⟨rfl, hb1⟩
      have y0 := ((z0.alloc _).below hb1 (by simp; omega))
      have y1 := ((z1.alloc _).below hb1 (by simp; omega))
      have ys := ((Blk.mk wr _ _).below hb1 (by simp))
      obtain ⟨p1, p2, p3, p4⟩ := y0.all2
      obtain ⟨p5, p6, p7, p8⟩ := y1.all2
      obtain ⟨p9, p10, p11, p12⟩ := ys.all2
      have bl1 : Below w.heap.size w w1 := (hbl.alloc hbl.size _).trans (hb1.mono (by simp; omega))
      go_wp2_with fail
      refine (add_f sb y _ O2.out).mono ?_
      rintro e w2 ⟨rfl, hb2⟩
      have v0 := y0.below hb2 y0.lt
      have v1 := y1.below hb2 y1.lt
      obtain ⟨q1, q2, q3, q4⟩ := v0.all2
      obtain ⟨q5, q6, q7, q8⟩ := v1.all2
      have bl2 : Below w.heap.size w w2 := bl1.trans (hb2.mono bl1.size)
      go_wp2_with fail
      exact bodyPost_ret (v := .tuple #[.agg #[.int .i64 0, .int .i64 0], .int .i64 10]) (by simp [results, Try.results27, go_sem, q1, q2]) rfl ⟨Or.inr ⟨⟨k, hk, HBad.out⟩, rfl⟩, (bl2.setCell (Nat.le_refl _) _).setCell (Nat.le_refl _) _⟩
    obtain ⟨o2a, o2b, o2c⟩ := o2
    have hgood : Hid (totAt l k = true) := by
      unfold Hid
      rw [HT.out]
      simp [o1b, o1c, o2b, o2c]
    go_wp2_with fail
    refine (add_t sa x _ o1a o1b o1c).mono ?_
    rintro e w1 ⟨rfl, hb1⟩
    have y0 := ((z0.alloc _).below hb1 (by simp; omega))
    have y1 := ((z1.alloc _).below hb1 (by simp; omega))
    have ys := ((Blk.mk wr _ _).below hb1 (by simp))
    obtain ⟨p1, p2, p3, p4⟩ := y0.all2
    obtain ⟨p5, p6, p7, p8⟩ := y1.all2
    obtain ⟨p9, p10, p11, p12⟩ := ys.all2
    have bl1 : Below w.heap.size w w1 := (hbl.alloc hbl.size _).trans (hb1.mono (by simp; omega))
    go_wp2_with fail
    refine (add_t sb y _ o2a o2b o2c).mono ?_
    rintro e w2 ⟨rfl, hb2⟩
    have v0 := y0.below hb2 y0.lt
    have v1 := y1.below hb2 y1.lt
    obtain ⟨q1, q2, q3, q4⟩ := v0.all2
    obtain ⟨q5, q6, q7, q8⟩ := v1.all2
    have bl2 : Below w.heap.size w w2 := bl1.trans (hb2.mono bl1.size)
    go_wp2_with fail
    go_roundw
    case rel =>
      exact ⟨k + 1, _, _, by omega, by go_num, n1, n2, fun j hj => by
        rcases (by omega : j = k ∨ j < k) with rfl | hj
        · exact hgood.out
        · exact hok.out j hj, o1c, o2c, (bl2.setCell (by simp) _).setCell (by simp) _, (v0.far (by simp) _).far (by simp) _, v1.two _ _⟩
    case measure => simp [intOf]; omega
--%%
end Go.Proofs.Ytpheeblpfcipaaa
