/-
  Contracts of functions that the claim reaches, and the plain laws behind them. Conditions as named in each.
-/
import Derived.Test.YtiaabmhjkoohmaaGreatPair2
import Derived.Test.YtiaabmhjkoohmaaGreatEmB
import Derived.Test.YtiaabmhjkoohmaaGreatTabX2
import Derived.Test.YtiaabmhjkoohmaaGreatBook2
import Derived.IntWalk
import Derived.Test.YtiaabmhjkoohmaaGreatClone
namespace Go.Proofs.YtiaabmhjkoohmaaGreat
set_option maxRecDepth 100000
set_option maxHeartbeats 25600000
set_option linter.unusedVariables false
set_option linter.unusedSimpArgs false
open Go.RowKit Tryz
open Lib (hid)
theorem pcoins_t (x y : Nat) (a b mode : Int) (hx : Rep x a) (hy : Rep y b) (ha : in53 a = true) (hb : in53 b = true) (hm : modeB mode = true) (w : World) :
  Calls prog 200 #[.complex .f64 x y, .int .i64 mode] w fun e w' => e = .returned (.tuple #[.agg #[.int .i64 (ro9 a 10000 mode), .int .i64 (ro9 b 10000 mode)], .int .i64 0]) ∧ Below w.heap.size w w' := by
 have ha' := i53.1 ha
 have hb' := i53.1 hb
 have HA := hid (round_c a 10000 mode · (by omega) (by omega) (by decide) (by decide) hm)
 have HB := hid (round_c b 10000 mode · (by omega) (by omega) (by decide) (by decide) hm)
 generalize ro9 a 10000 mode = ra at *
 generalize ro9 b 10000 mode = rb at *
 go_enter func200, ntmps200
 go_wp2_with fail
 refine (sides_c x y a b hx hy ha hb _).mono ?_
 rintro e w' ⟨rfl, rfl⟩
 go_wp2_with fail
 refine (HA.out _).mono ?_
 rintro e w1 ⟨rfl, hb1⟩
 obtain ⟨hc1, hf1⟩ := bcell hb1
 have hz1 : w.heap.size < w1.heap.size := by have := hb1.size; simp at this; omega
 go_wp2_with fail
 refine (HB.out _).mono ?_
 rintro e w2 ⟨rfl, hb2⟩
 obtain ⟨hc2, hf2⟩ := bcell hb2
 go_wp2_with fail
 exact bodyPost_ret (v := .tuple #[.agg #[.int .i64 ra, .int .i64 rb], .int .i64 0]) (by simp [results, results200, go_sem, hc1, hc2, hz1]) rfl ⟨rfl, (((bz1 _ _).trans ((hb1.mono (by simp)).trans (hb2.mono (by omega)))).setCell (Nat.le_refl _) _).setCell (Nat.le_refl _) _⟩
structure Sh where
 a : Int
 b : Int
def sh0 : Sh := ⟨0, 0⟩
def SharesAt (w : World) (b off : Nat) (l : List Sh) : Prop := ∀ k, k < l.length → w.cell? ⟨b, off + k * 2, none⟩ = some (.int .i64 (l.getD k sh0).a) ∧ w.cell? ⟨b, off + k * 2 + 1, none⟩ = some (.int .i64 (l.getD k sh0).b)
def Sh9 (w : World) (A : Option Addr) (n : Nat) (l : List Sh) : Prop := n = l.length ∧ n ≤ 9223372036854775807 ∧ (0 < n → ∃ b off, A = some ⟨b, off, none⟩ ∧ b < w.heap.size ∧ SharesAt w b off l)
def sumTo (f : Nat → Int) : Nat → Int
 | 0 => 0
 | k + 1 => sumTo f k + f k
def totAt (l : List Sh) (k : Nat) : Bool := mrB (l.getD k sh0).a && mrB (l.getD k sh0).b && mrB (sumTo (fun i => (l.getD i sh0).a) (k + 1)) && mrB (sumTo (fun i => (l.getD i sh0).b) (k + 1))
def Tot (l : List Sh) (n : Nat) (w : World) (x : Ending) (w' : World) : Prop :=
  (((∀ k, k < n → totAt l k = true) ∧ x = .returned (.tuple #[.agg #[.int .i64 (sumTo (fun i => (l.getD i sh0).a) n), .int .i64 (sumTo (fun i => (l.getD i sh0).b) n)], .int .i64 0])) ∨
   ((∃ k, k < n ∧ totAt l k = false) ∧ x = .returned (.tuple #[.agg #[.int .i64 0, .int .i64 0], .int .i64 10]))) ∧ Below w.heap.size w w'
theorem total_c (l : List Sh) (A : Option Addr) (n c : Nat) (w : World) (h : Sh9 w A n l) : Calls prog 141 #[.slice A n c] w (Tot l n w) := by
  obtain ⟨hn, hm, hc⟩ := h
  have Hn := hid hn
  clear hn
  have HC := hid hc
  clear hc
  go_enter func141, ntmps141
  go_wp2
  go_loopw [12] (fun i wr => ∃ (k : Nat) (sa sb : Int), k ≤ n ∧ i = .int .i64 k ∧ Hid (sa = sumTo (fun i => (l.getD i sh0).a) k) ∧ Hid (sb = sumTo (fun i => (l.getD i sh0).b) k) ∧ Hid (∀ j, j < k → totAt l j = true) ∧ mrB sa = true ∧ mrB sb = true ∧
      Below w.heap.size w wr ∧ Blk wr w.heap.size 79 #[.int .i64 0, .int .i64 0] ∧ Blk wr (w.heap.size + 1) 79 #[.int .i64 sa, .int .i64 sb]) (fun i _ => n - (intOf i).toNat)
  case atStart => exact ⟨0, 0, 0, Nat.zero_le _, rfl, rfl, rfl, fun j hj => by omega, by decide, by decide, (bz1 _ _).alloc (by simp) _, (Blk.mk _ _ _).alloc _, by
    have := Blk.mk (w.alloc (.cells #[.int .i64 0, .int .i64 0] 79)) 79 #[.int .i64 0, .int .i64 0]
    rwa [World.size_alloc] at this⟩
  case round =>
    obtain ⟨k, sa, sb, hk', rfl, hsa, hsb, hok, ma, mb, hbl, z0, z1⟩ := hrel
    obtain ⟨r0, r1, f0, f1⟩ := z0.all2
    obtain ⟨a0, a1, e0, e1⟩ := z1.all2
    have hl1 := z1.lt
    by_cases hk : k < n
    case neg =>
      have ekn : n = k := by omega
      go_wp2_with fail
      exact bodyPost_ret (v := .tuple #[.agg #[.int .i64 sa, .int .i64 sb], .int .i64 0]) (by simp [results, results141, go_sem, r0, r1]) rfl ⟨Or.inl ⟨by rw [ekn]; exact hok.out, by rw [ekn, hsa.out, hsb.out]⟩, (hbl.setCell (Nat.le_refl _) _).setCell (Nat.le_refl _) _⟩
    obtain ⟨b, off, rfl, hb, hc⟩ := HC.out (by omega)
    obtain ⟨c0, c1⟩ := hc k (by rw [← Hn.out]; exact hk)
    rw [← hbl.cell (p := ⟨b, _, none⟩) hb] at c0 c1
    have htk : totAt l k = (mrB (l.getD k sh0).a && mrB (l.getD k sh0).b && mrB (sa + (l.getD k sh0).a) && mrB (sb + (l.getD k sh0).b)) := by
      rw [totAt, sumTo, sumTo, ← hsa.out, ← hsb.out]
    have n1 : Hid (sa + (l.getD k sh0).a = sumTo (fun i => (l.getD i sh0).a) (k + 1)) := by unfold Hid; rw [sumTo, ← hsa.out]
    have n2 : Hid (sb + (l.getD k sh0).b = sumTo (fun i => (l.getD i sh0).b) (k + 1)) := by unfold Hid; rw [sumTo, ← hsb.out]
    have HT := hid htk
    clear htk hc
    have hsz := hbl.size
    generalize (l.getD k sh0).a = x at *
    generalize (l.getD k sh0).b = y at *
    by_cases o1 : mrB sa = true ∧ mrB x = true ∧ mrB (sa + x) = true
    case neg =>
      have hbad : totAt l k = false := by
        rw [HT.out]
        cases h1 : mrB x <;> cases h2 : mrB (sa + x) <;> simp [h1, h2]
        exact absurd ⟨ma, h1, h2⟩ o1
      have HBad := hid hbad
      have O1 := hid o1
      clear hbad o1
      go_wp2_with fail
      refine (add_f sa x _ O1.out).mono ?_
      rintro e w1 ⟨rfl, hb1⟩
      have y0 := ((z0.alloc _).below hb1 (by simp; omega))
      have y1 := ((z1.alloc _).below hb1 (by simp; omega))
      have ys := ((Blk.mk wr _ _).below hb1 (by simp))
      obtain ⟨p1, p2, p3, p4⟩ := y0.all2
      obtain ⟨p5, p6, p7, p8⟩ := y1.all2
      obtain ⟨p9, p10, p11, p12⟩ := ys.all2
      have bl1 : Below w.heap.size w w1 := (hbl.alloc hbl.size _).trans (hb1.mono (by simp; omega))
      have hbad := HBad.out
      clear HBad
      have HBad := hid hbad
      clear hbad
      go_wp2_with fail
      exact bodyPost_ret (v := .tuple #[.agg #[.int .i64 0, .int .i64 0], .int .i64 10]) (by simp [results, results141, go_sem, p1, p2]) rfl ⟨Or.inr ⟨⟨k, hk, HBad.out⟩, rfl⟩, (bl1.setCell (Nat.le_refl _) _).setCell (Nat.le_refl _) _⟩
    obtain ⟨o1a, o1b, o1c⟩ := o1
    by_cases o2 : mrB sb = true ∧ mrB y = true ∧ mrB (sb + y) = true
    case neg =>
      have hbad : totAt l k = false := by
        rw [HT.out]
        cases h1 : mrB y <;> cases h2 : mrB (sb + y) <;> simp [h1, h2]
        exact absurd ⟨mb, h1, h2⟩ o2
      have HBad := hid hbad
      have O2 := hid o2
      clear hbad o2
      go_wp2_with fail
      refine (add_t sa x _ o1a o1b o1c).mono ?_
      rintro e w1 ⟨rfl, hb1⟩
      have y0 := ((z0.alloc _).below hb1 (by simp; omega))
      have y1 := ((z1.alloc _).below hb1 (by simp; omega))
      have ys := ((Blk.mk wr _ _).below hb1 (by simp))
      obtain ⟨p1, p2, p3, p4⟩ := y0.all2
      obtain ⟨p5, p6, p7, p8⟩ := y1.all2
      obtain ⟨p9, p10, p11, p12⟩ := ys.all2
      have bl1 : Below w.heap.size w w1 := (hbl.alloc hbl.size _).trans (hb1.mono (by simp; omega))
      go_wp2_with fail
      refine (add_f sb y _ O2.out).mono ?_
      rintro e w2 ⟨rfl, hb2⟩
      have v0 := y0.below hb2 y0.lt
      have v1 := y1.below hb2 y1.lt
      obtain ⟨q1, q2, q3, q4⟩ := v0.all2
      obtain ⟨q5, q6, q7, q8⟩ := v1.all2
      have bl2 : Below w.heap.size w w2 := bl1.trans (hb2.mono bl1.size)
      go_wp2_with fail
      exact bodyPost_ret (v := .tuple #[.agg #[.int .i64 0, .int .i64 0], .int .i64 10]) (by simp [results, results141, go_sem, q1, q2]) rfl ⟨Or.inr ⟨⟨k, hk, HBad.out⟩, rfl⟩, (bl2.setCell (Nat.le_refl _) _).setCell (Nat.le_refl _) _⟩
    obtain ⟨o2a, o2b, o2c⟩ := o2
    have hgood : Hid (totAt l k = true) := by
      unfold Hid
      rw [HT.out]
      simp [o1b, o1c, o2b, o2c]
    go_wp2_with fail
    refine (add_t sa x _ o1a o1b o1c).mono ?_
    rintro e w1 ⟨rfl, hb1⟩
    have y0 := ((z0.alloc _).below hb1 (by simp; omega))
    have y1 := ((z1.alloc _).below hb1 (by simp; omega))
    have ys := ((Blk.mk wr _ _).below hb1 (by simp))
    obtain ⟨p1, p2, p3, p4⟩ := y0.all2
    obtain ⟨p5, p6, p7, p8⟩ := y1.all2
    obtain ⟨p9, p10, p11, p12⟩ := ys.all2
    have bl1 : Below w.heap.size w w1 := (hbl.alloc hbl.size _).trans (hb1.mono (by simp; omega))
    go_wp2_with fail
    refine (add_t sb y _ o2a o2b o2c).mono ?_
    rintro e w2 ⟨rfl, hb2⟩
    have v0 := y0.below hb2 y0.lt
    have v1 := y1.below hb2 y1.lt
    obtain ⟨q1, q2, q3, q4⟩ := v0.all2
    obtain ⟨q5, q6, q7, q8⟩ := v1.all2
    have bl2 : Below w.heap.size w w2 := bl1.trans (hb2.mono bl1.size)
    go_wp2_with fail
    go_roundw
    case rel =>
      exact ⟨k + 1, _, _, by omega, by go_num, n1, n2, fun j hj => by
        rcases (by omega : j = k ∨ j < k) with rfl | hj
        · exact hgood.out
        · exact hok.out j hj, o1c, o2c, (bl2.setCell (by simp) _).setCell (by simp) _, (v0.far (by simp) _).far (by simp) _, v1.two _ _⟩
    case measure => simp [intOf]; omega
end Go.Proofs.YtiaabmhjkoohmaaGreat
namespace Go.Proofs.YtiaabmhjkoohmaaGreat
set_option maxRecDepth 100000
set_option maxHeartbeats 25600000
set_option linter.unusedVariables false
set_option linter.unusedSimpArgs false
open Go.RowKit
open Ieee
theorem neg_rep {x : Nat} {a : Int} (h : Rep x a) : Rep (Op.negFloat .f64 x) (-a) := by
 have h1 : Op.negFloat .f64 x = x ^^^ 2 ^ 63 := rfl
 have e : double.read (Op.negFloat .f64 x) = (double.read x).opposite := by
  rw [h1]
  have hm : (x ^^^ 2 ^ 63) % 2 ^ 63 = x % 2 ^ 63 := by rw [Nat.xor_mod_two_pow]; simp
  have hd : (x ^^^ 2 ^ 63) / 2 ^ 63 % 2 = 1 - x / 2 ^ 63 % 2 := by
   rw [Nat.xor_div_two_pow]
   have : (2 ^ 63 / 2 ^ 63 : Nat) = 1 := by decide
   rw [this]
   have h3 : (x / 2 ^ 63 ^^^ 1) % 2 = ((x / 2 ^ 63) % 2 ^^^ 1) := by
    have := Nat.xor_mod_two_pow (a := x / 2 ^ 63) (b := 1) (n := 1)
    simpa using this
   rw [h3]
   rcases Nat.mod_two_eq_zero_or_one (x / 2 ^ 63) with h4 | h4 <;> rw [h4] <;> rfl
  have hs : double.signWeight = 2 ^ 63 := by decide
  unfold Format.read
  simp only [hs, hm, hd]
  have hb : (1 - x / 2 ^ 63 % 2 == 1) = !(x / 2 ^ 63 % 2 == 1) := by
   rcases Nat.mod_two_eq_zero_or_one (x / 2 ^ 63) with h4 | h4 <;> rw [h4] <;> rfl
  rw [hb]
  by_cases h5 : x % 2 ^ 63 < double.binade
  ·
   rw [if_pos h5, if_pos h5]; rfl
  rw [if_neg h5, if_neg h5]
  by_cases h6 : x % 2 ^ 63 < double.infRung
  ·
   rw [if_pos h6, if_pos h6]; rfl
  rw [if_neg h6, if_neg h6]
  by_cases h7 : x % 2 ^ 63 = double.infRung
  ·
   rw [if_pos h7, if_pos h7]; rfl
  ·
   rw [if_neg h7, if_neg h7]; rfl
 unfold Rep
 rw [e]
 exact opp_rep h
def PairV (a b : Int) (W : World) (x : Ending) (w' : World) : Prop := (∃ u v, x = .returned (.tuple #[.complex .f64 u v, .int .i64 0]) ∧ Rep u a ∧ Rep v b) ∧ W = w'
theorem padd2_c (b off c : Nat) (X Y : Nat → Nat) (f g S T : Nat → Int) (hX : ∀ k, k < 2 → Rep (X k) (f k) ∧ Rep (Y k) (g k) ∧ in53 (f k) = true ∧ in53 (g k) = true) (hS : ∀ k, k < 2 → S (k + 1) = S k + f k ∧ T (k + 1) = T k + g k ∧ in53 (S (k + 1)) = true ∧ in53 (T (k + 1)) = true) (h0 : S 0 = 0 ∧ T 0 = 0) (w : World) (hb : b < w.heap.size) (hc : ∀ k, k < 2 → w.cell? ⟨b, off + k, none⟩ = some (.complex .f64 (X k) (Y k))) :
  Calls Tryz.prog 184 #[.slice (some ⟨b, off, none⟩) 2 c] w (PairV (S 2) (T 2) w) := by
 have HS := Lib.hid hS
 have HX := Lib.hid hX
 have HC := Lib.hid hc
 have H0 := Lib.hid h0
 clear hS hX hc h0
 go_enter Tryz.func184, Tryz.ntmps184
 go_wp2_with fail
 go_loopw [9, 4, 6] (fun i s _ wr => wr = w ∧ ∃ (k u v : Nat), k ≤ 2 ∧ i = .int .i64 k ∧ s = .complex .f64 u v ∧ Hid (Rep u (S k) ∧ Rep v (T k))) (fun i _ _ _ => 2 - (intOf i).toNat)
 case atStart => exact ⟨rfl, 0, 0, 0, by omega, rfl, rfl, by rw [H0.out.1]; exact rep_zero, by rw [H0.out.2]; exact rep_zero⟩
 case round =>
  obtain ⟨rfl, k, u, v, hk', rfl, rfl, HR⟩ := hrel
  by_cases hk : k < 2
  case neg =>
   obtain rfl : k = 2 := by omega
   clear hk hk'
   go_wp2_with fail
   refine bodyPost_ret (v := .tuple #[.complex .f64 u v, .int .i64 0]) (by simp [results, Tryz.results184, go_sem]) rfl ⟨⟨u, v, rfl, HR.out.1, HR.out.2⟩, rfl⟩
  have d0 := HC.out k hk
  obtain ⟨x1, x2, x3, x4⟩ := HX.out k hk
  obtain ⟨s1, s2, s3, s4⟩ := HS.out k hk
  rw [s1] at s3
  rw [s2] at s4
  obtain ⟨u', v', q, hu, hv⟩ := cadd_rep HR.out.1 HR.out.2 x1 x2 s3 s4
  have g2 := fun w => run_complex_sum (P := Tryz.prog) w .add (Or.inl rfl) 267 .f64 _ _ _ _ _ _ q
  clear q
  rw [← s1] at hu s3
  rw [← s2] at hv s4
  have HQ : Hid (Rep u' (S (k + 1)) ∧ Rep v' (T (k + 1))) := ⟨hu, hv⟩
  have K1 := Lib.hid (fun W => pright_c (X k) (Y k) (f k) (g k) x1 x2 x3 x4 W)
  have K2 := Lib.hid (fun W => pright_c u' v' _ _ hu hv s3 s4 W)
  clear x1 x2 x3 x4 s1 s2 s3 s4 hu hv
  go_wp2_with fail
  refine (K1.out _).mono ?_
  rintro e W ⟨rfl, rfl⟩
  go_wp2_with fail
  refine (K2.out _).mono ?_
  rintro e W ⟨rfl, rfl⟩
  go_wp2_with fail
  go_roundw
  case rel => exact ⟨by trivial, k + 1, u', v', by omega, by go_num, rfl, HQ⟩
  case measure => simp [intOf]; omega
theorem isz {a : Int} (h : -200000000000 ≤ a ∧ a ≤ 200000000000) : in53 a = true := i53.2 (by omega)
theorem psub_c (x y z t : Nat) (a b c d : Int) (hx : Rep x a) (hy : Rep y b) (hz : Rep z c) (ht : Rep t d) (ha : mrB a = true) (hb : mrB b = true) (hc : mrB c = true) (hd : mrB d = true) (w : World) :
  Calls Tryz.prog 163 #[.complex .f64 x y, .complex .f64 z t] w fun e w' => (∃ u v, e = .returned (.tuple #[.complex .f64 u v, .int .i64 0]) ∧ Rep u (a - c) ∧ Rep v (b - d)) ∧ Below w.heap.size w w' := by
 have ha' := miz.1 ha
 have hb' := miz.1 hb
 have hc' := miz.1 hc
 have hd' := miz.1 hd
 have K := Lib.hid (fun W hW hC => padd2_c w.heap.size 0 2 (fun k => if k = 0 then x else Op.negFloat .f64 z) (fun k => if k = 0 then y else Op.negFloat .f64 t) (fun k => if k = 0 then a else -c) (fun k => if k = 0 then b else -d) (fun k => if k = 0 then 0 else if k = 1 then a else a - c) (fun k => if k = 0 then 0 else if k = 1 then b else b - d) (fun k hk => by
  rcases (by omega : k = 0 ∨ k = 1) with rfl | rfl
  ·
   exact ⟨hx, hy, isz (by simp; omega), isz (by simp; omega)⟩
  ·
   exact ⟨neg_rep hz, neg_rep ht, isz (by simp; omega), isz (by simp; omega)⟩) (fun k hk => by
  rcases (by omega : k = 0 ∨ k = 1) with rfl | rfl
  ·
   exact ⟨by simp, by simp, isz (by simp; omega), isz (by simp; omega)⟩
  ·
   exact ⟨by simp; omega, by simp; omega, isz (by simp; omega), isz (by simp; omega)⟩) ⟨rfl, rfl⟩ W hW hC)
 clear ha hb hc hd ha' hb' hc' hd' hx hy hz ht
 have gn : ∀ w, (Op.unary .neg (.complex .f64 z t)).run Tryz.prog w = .ok (.complex .f64 (Op.negFloat .f64 z) (Op.negFloat .f64 t)) w := fun w => rfl
 go_enter Tryz.func163, Tryz.ntmps163
 go_wp2_with fail
 refine Calls.mono (K.out _ ?_ ?_) ?_
 ·
  simp
 ·
  intro k hk
  rcases (by omega : k = 0 ∨ k = 1) with rfl | rfl <;> simp [go_sem]
 rintro e W ⟨⟨u, v, rfl, hu, hv⟩, rfl⟩
 go_wp2_with fail
 refine bodyPost_ret (v := .tuple #[.complex .f64 u v, .int .i64 0]) (by simp [results, Tryz.results163, go_sem]) rfl ⟨⟨u, v, rfl, hu, hv⟩, bz1 _ _⟩
def lessE (a b c d : Int) : Int := sqz (okE (mrB a && (mrB b && (mrB c && mrB d))) 10) (okE (mrB (a - c) && mrB (b - d)) 10)
def lessV (a b c d : Int) : Sh := if lessE a b c d = 0 then ⟨a - c, b - d⟩ else sh0
theorem less_c (a b c d : Int) (w : World) (re : Int) (rv : Sh) (he : Hid (re = lessE a b c d)) (hv : Hid (rv = lessV a b c d)) :
  Calls Tryz.prog 130 #[.agg #[.int .i64 a, .int .i64 b], .agg #[.int .i64 c, .int .i64 d]] w fun e w' => e = .returned (.tuple #[.agg #[.int .i64 rv.a, .int .i64 rv.b], .int .i64 re]) ∧ Below w.heap.size w w' := by
 have HF0 := Lib.hid (Fr.start w)
 have HF1 := al9 (((((HF0.out.al 79 #[.int .i64 a, .int .i64 b]).al 79 #[.int .i64 c, .int .i64 d]).al 79 #[.int .i64 0, .int .i64 0]).al 2 #[.int .i64 a, .int .i64 b, .int .i64 c, .int .i64 d]))
 clear HF0
 have c0_0 := (HF1.out.b 0 rfl).cv 0 (.int .i64 a) rfl
 have c0_1 := (HF1.out.b 0 rfl).cv 1 (.int .i64 b) rfl
 have c1_0 := (HF1.out.b 1 rfl).cv 0 (.int .i64 c) rfl
 have c1_1 := (HF1.out.b 1 rfl).cv 1 (.int .i64 d) rfl
 have KR := Lib.hid (fun (g : Nat) (W : World) (h : Blk W g 2 #[.int .i64 a, .int .i64 b, .int .i64 c, .int .i64 d]) => right4 g 0 4 a b c d W (h.cell 0) (h.cell 1) (h.cell 2) (h.cell 3))
 cases hq : (mrB a && (mrB b && (mrB c && mrB d)))
 case false =>
  have HE : Hid (re = 10) := he.out.trans (by unfold lessE okE; rw [hq]; rfl)
  have HV : Hid (rv = sh0) := hv.out.trans (by unfold lessV lessE okE; rw [hq]; rfl)
  rw [hq] at KR
  clear hq
  go_enter Tryz.func130, Tryz.ntmps130
  go_wp2_with fail
  refine (KR.out _ _ (HF1.out.b 3 rfl)).mono ?_
  rintro e W1 ⟨rfl, rfl⟩
  clear c0_0 c0_1 c1_0 c1_1
  have qz := HF1.out.b 2 rfl
  have c2_0 := qz.cv 0 (.int .i64 0) rfl
  have f2_0 := qz.free 0
  have c2_1 := qz.cv 1 (.int .i64 0) rfl
  have f2_1 := qz.free 1
  clear qz
  go_wp2_with fail
  refine bodyPost_ret (v := .tuple #[.agg #[.int .i64 0, .int .i64 0], .int .i64 10]) (by simp [results, Tryz.results130, go_sem, c2_0, c2_1]) rfl ⟨by rw [HE.out, HV.out] <;> rfl, ?_⟩
  have hg := HF1.out.ge 2 rfl
  exact HF1.out.bl
 have hq' := hq
 simp only [Bool.and_eq_true] at hq'
 obtain ⟨m1, m2, m3, m4⟩ := hq'
 have n1 := miz.1 m1
 have n2 := miz.1 m2
 have n3 := miz.1 m3
 have n4 := miz.1 m4
 have K1 := Lib.hid (fun W => share_t a b (isz (by omega)) (isz (by omega)) W)
 have K2 := Lib.hid (fun W => share_t c d (isz (by omega)) (isz (by omega)) W)
 have K3 := Lib.hid (fun W => psub_c (fb a) (fb b) (fb c) (fb d) a b c d (fb_rep _ (by omega)) (fb_rep _ (by omega)) (fb_rep _ (by omega)) (fb_rep _ (by omega)) m1 m2 m3 m4 W)
 have K4 := Lib.hid (fun u v hu hv W => sides_c u v (a - c) (b - d) hu hv (isz (by omega)) (isz (by omega)) W)
 have K5 := Lib.hid (fun (g : Nat) (W : World) (h : Blk W g 2 #[.int .i64 (a - c), .int .i64 (b - d)]) => right2 g 0 2 (a - c) (b - d) W (h.cell 0) (h.cell 1))
 rw [hq] at KR
 clear m1 m2 m3 m4 n1 n2 n3 n4
 cases hr : (mrB (a - c) && mrB (b - d))
 case false =>
  have HE : Hid (re = 10) := he.out.trans (by unfold lessE okE; rw [hq, hr]; rfl)
  have HV : Hid (rv = sh0) := hv.out.trans (by unfold lessV lessE okE; rw [hq, hr]; rfl)
  rw [hr] at K5
  clear hq hr
  generalize a - c = x at *
  generalize b - d = y at *
  go_enter Tryz.func130, Tryz.ntmps130
  go_wp2_with fail
  refine (KR.out _ _ (HF1.out.b 3 rfl)).mono ?_
  rintro e W1 ⟨rfl, rfl⟩
  have HF2 := Lib.hid (HF1.out.cut 3)
  clear HF1
  go_wp2_with fail
  refine (K1.out _).mono ?_
  rintro e W2 ⟨rfl, hb⟩
  clear c0_0 c0_1 c1_0 c1_1
  have HF3 := Lib.hid (HF2.out.ca hb)
  clear hb HF2
  have c1_0 := (HF3.out.b 1 rfl).cv 0 (.int .i64 c) rfl
  have c1_1 := (HF3.out.b 1 rfl).cv 1 (.int .i64 d) rfl
  go_wp2_with fail
  refine (K2.out _).mono ?_
  rintro e W3 ⟨rfl, hb⟩
  clear c1_0 c1_1
  have HF4 := Lib.hid (HF3.out.ca hb)
  clear hb HF3
  go_wp2_with fail
  refine (K3.out _).mono ?_
  rintro e W4 ⟨⟨u, v, rfl, hu, hv⟩, hb⟩
  have HF5 := Lib.hid (HF4.out.ca hb)
  clear hb HF4
  go_wp2_with fail
  refine (K4.out _ _ hu hv _).mono ?_
  rintro e W5 ⟨rfl, rfl⟩
  have HF6 := al9 ((HF5.out.al 2 #[.int .i64 x, .int .i64 y]))
  clear HF5
  go_wp2_with fail
  refine (K5.out _ _ (HF6.out.b 3 rfl)).mono ?_
  rintro e W6 ⟨rfl, rfl⟩
  have qz := HF6.out.b 2 rfl
  have c2_0 := qz.cv 0 (.int .i64 0) rfl
  have f2_0 := qz.free 0
  have c2_1 := qz.cv 1 (.int .i64 0) rfl
  have f2_1 := qz.free 1
  clear qz
  go_wp2_with fail
  refine bodyPost_ret (v := .tuple #[.agg #[.int .i64 0, .int .i64 0], .int .i64 10]) (by simp [results, Tryz.results130, go_sem, c2_0, c2_1]) rfl ⟨by rw [HE.out, HV.out] <;> rfl, ?_⟩
  have hg := HF6.out.ge 2 rfl
  exact (bSg (bSg HF6.out.bl hg _ _) hg _ _)
 case true =>
  have HE : Hid (re = 0) := he.out.trans (by unfold lessE okE; rw [hq, hr]; rfl)
  have HV : Hid (rv = ⟨a - c, b - d⟩) := hv.out.trans (by unfold lessV lessE okE; rw [hq, hr]; rfl)
  rw [hr] at K5
  clear hq hr
  generalize a - c = x at *
  generalize b - d = y at *
  go_enter Tryz.func130, Tryz.ntmps130
  go_wp2_with fail
  refine (KR.out _ _ (HF1.out.b 3 rfl)).mono ?_
  rintro e W1 ⟨rfl, rfl⟩
  have HF2 := Lib.hid (HF1.out.cut 3)
  clear HF1
  go_wp2_with fail
  refine (K1.out _).mono ?_
  rintro e W2 ⟨rfl, hb⟩
  clear c0_0 c0_1 c1_0 c1_1
  have HF3 := Lib.hid (HF2.out.ca hb)
  clear hb HF2
  have c1_0 := (HF3.out.b 1 rfl).cv 0 (.int .i64 c) rfl
  have c1_1 := (HF3.out.b 1 rfl).cv 1 (.int .i64 d) rfl
  go_wp2_with fail
  refine (K2.out _).mono ?_
  rintro e W3 ⟨rfl, hb⟩
  clear c1_0 c1_1
  have HF4 := Lib.hid (HF3.out.ca hb)
  clear hb HF3
  go_wp2_with fail
  refine (K3.out _).mono ?_
  rintro e W4 ⟨⟨u, v, rfl, hu, hv⟩, hb⟩
  have HF5 := Lib.hid (HF4.out.ca hb)
  clear hb HF4
  go_wp2_with fail
  refine (K4.out _ _ hu hv _).mono ?_
  rintro e W5 ⟨rfl, rfl⟩
  have HF6 := al9 ((HF5.out.al 2 #[.int .i64 x, .int .i64 y]))
  clear HF5
  go_wp2_with fail
  refine (K5.out _ _ (HF6.out.b 3 rfl)).mono ?_
  rintro e W6 ⟨rfl, rfl⟩
  have qz := HF6.out.b 2 rfl
  have c2_0 := qz.cv 0 (.int .i64 0) rfl
  have f2_0 := qz.free 0
  have c2_1 := qz.cv 1 (.int .i64 0) rfl
  have f2_1 := qz.free 1
  clear qz
  go_wp2_with fail
  refine bodyPost_ret (v := .tuple #[.agg #[.int .i64 x, .int .i64 y], .int .i64 0]) (by simp [results, Tryz.results130, go_sem, c2_0, c2_1]) rfl ⟨by rw [HE.out, HV.out] <;> rfl, ?_⟩
  have hg := HF6.out.ge 2 rfl
  exact (bSg (bSg HF6.out.bl hg _ _) hg _ _)
end Go.Proofs.YtiaabmhjkoohmaaGreat
namespace Go.Proofs.YtiaabmhjkoohmaaGreat
set_option maxRecDepth 100000
set_option maxHeartbeats 25600000
set_option linter.unusedVariables false
set_option linter.unusedSimpArgs false
open Go.RowKit Tryz
open Lib (hid)
theorem sexact_t (nm : ByteArray) (base pc yc rd : Int) (A : Option Addr) (n c : Nat) (l : List Bd) (x : Int) (w : World) (h : Blz w A n l) (hl : bE9 l = 0) (hx : mrB x = true) :
  Calls prog 199 #[.agg #[.string nm, .int .i64 base, .slice A n c, .int .i64 pc, .int .i64 yc, .int .i64 rd], .int .i64 x] w (PairIs (bandS (·.r) l x) (bandS (·.e) l x) w) := by
 have K := hid (fun w h => banded_t x l A n c w h hl hx)
 generalize bandS (·.r) l x = P at *
 generalize bandS (·.e) l x = E at *
 clear hl
 go_enter func199, ntmps199
 go_wp2_with fail
 refine (K.out _ (h.below (bz1 _ _))).mono ?_
 rintro e w1 ⟨⟨u, v, rfl, ru, rv⟩, hb1⟩
 go_wp2_with fail
 go_ret2
 exact ⟨⟨_, _, rfl, ru, rv⟩, (bz1 _ _).trans (hb1.mono (by simp))⟩
theorem sdue_t (nm : ByteArray) (base pc yc rd : Int) (A : Option Addr) (n c : Nat) (l : List Bd) (x : Int) (w : World) (h : Blz w A n l) (hl : bE9 l = 0) (hx : mrB x = true) (hm : modeB rd = true)
  (hp : in53 (bandS (·.r) l x) = true) (hq : in53 (bandS (·.e) l x) = true) :
  Calls prog 181 #[.agg #[.string nm, .int .i64 base, .slice A n c, .int .i64 pc, .int .i64 yc, .int .i64 rd], .int .i64 x] w fun e w' => e = .returned (.tuple #[.agg #[.int .i64 (ro9 (bandS (·.r) l x) 10000 rd), .int .i64 (ro9 (bandS (·.e) l x) 10000 rd)], .int .i64 0]) ∧ Below w.heap.size w w' := by
 have K := hid (fun w h => sexact_t nm base pc yc rd A n c l x w h hl hx)
 have K2 := hid (fun u v a b ru rv ha hb => pcoins_t u v a b rd ru rv ha hb hm)
 generalize bandS (·.r) l x = P at *
 generalize bandS (·.e) l x = E at *
 generalize hrp : ro9 P 10000 rd = rp at *
 generalize hre : ro9 E 10000 rd = re at *
 have HRP := hid hrp
 have HRE := hid hre
 clear hl hrp hre
 go_enter func181, ntmps181
 go_wp2_with fail
 refine (K.out _ (h.below ((bz1 _ _).alloc (by simp) _))).mono ?_
 rintro e w1 ⟨⟨u, v, rfl, ru, rv⟩, hb1⟩
 have cb := ((Blk.mk w 195 #[.string nm, .int .i64 base, .slice A n c, .int .i64 pc, .int .i64 yc, .int .i64 rd]).alloc (.cells #[.int .i64 0, .int .i64 0] 79)).below hb1 (by simp; omega)
 have rb := (Blk.mk (w.alloc (.cells #[.string nm, .int .i64 base, .slice A n c, .int .i64 pc, .int .i64 yc, .int .i64 rd] 195)) 79 #[.int .i64 0, .int .i64 0]).below hb1 (by simp)
 rw [World.size_alloc] at rb
 have b1 : Below w.heap.size w w1 := ((bz1 _ _).alloc (by simp) _).trans (hb1.mono (by simp; omega))
 obtain ⟨q0, q1, q2, q3, q4, q5⟩ := cb.all6
 obtain ⟨r0, r1, r2, r3⟩ := rb.all2
 go_wp2_with fail
 refine (K2.out u v P E ru rv hp hq _).mono ?_
 rw [HRP.out, HRE.out]
 rintro e w2 ⟨rfl, hb2⟩
 have rb2 := rb.below hb2 rb.lt
 obtain ⟨y0, y1, y2, y3⟩ := rb2.all2
 have b2 : Below w.heap.size w w2 := b1.trans (hb2.mono b1.size)
 go_wp2_with fail
 exact bodyPost_ret (v := .tuple #[.agg #[.int .i64 rp, .int .i64 re], .int .i64 0]) (by simp [results, results181, go_sem, y0, y1]) rfl ⟨rfl, (b2.setCell (by simp) _).setCell (by simp) _⟩
def shI (c : Ct) (x : Int) : Sh := ⟨ro9 (bandS (·.r) c.bands x) 10000 c.rd, ro9 (bandS (·.e) c.bands x) 10000 c.rd⟩
def shC (s : Sh) : List Value := [.int .i64 s.a, .int .i64 s.b]
theorem bandS_bd (l : List Bd) (hl : bE9 l = 0) (x : Int) (hx : mrB x = true) : (0 ≤ bandS (·.r) l x ∧ bandS (·.r) l x ≤ 8000000000000000) ∧ (0 ≤ bandS (·.e) l x ∧ bandS (·.e) l x ≤ 8000000000000000) := by
 have g := goodB l hl
 have hx' := miz.1 hx
 have h1 := prog_bd x (fun k => (l.getD k bd0).f) (fun k => (l.getD k bd0).r) l.length (fun i hi => (g.f i hi).1) g.r hx'.2 l.length (Nat.le_refl _)
 have h2 := prog_bd x (fun k => (l.getD k bd0).f) (fun k => (l.getD k bd0).e) l.length (fun i hi => (g.f i hi).1) g.e hx'.2 l.length (Nat.le_refl _)
 have h3 := g.hi
 unfold bandS
 dsimp only
 omega
def xAt (cts : List Ct) (b : Bs) (l : List Int) (i : Nat) : Int := xI (cts.getD i ct0) b (l.getD i 0)
def okA (cts : List Ct) (b : Bs) (l : List Int) (n : Nat) : Bool := bsR b && (List.range n).all fun i => mrB (l.getD i 0 + xAt cts b l i)
def rowA (cts : List Ct) (b : Bs) (l : List Int) (n : Nat) : List Sh := (List.range n).map fun i => shI (cts.getD i ct0) (xAt cts b l i)
def stepTo (cts : List Ct) (b : Bs) (l : List Int) (n k : Nat) : List Int := (List.range n).map fun i => if i < k then l.getD i 0 + xAt cts b l i else l.getD i 0
def OwnS (w : World) (base : Nat) (v : Value) (n : Nat) (l : List Sh) : Prop := n = l.length ∧ w.ownsRow base 79 2 v n (l.flatMap shC)
theorem info_share : (prog.info? 79).map (fun i => (i.zero, i.size, i.bytes)) = some (some (.agg #[.int .i64 0, .int .i64 0]), 2, 16) := by kernel_rfl
def PerR (cts : List Ct) (b : Bs) (l : List Int) (n : Nat) (w : World) (e : Ending) (w' : World) : Prop :=
  ((okA cts b l n = true ∧ ∃ v vn, e = .returned (.tuple #[v, vn, .int .i64 0]) ∧ OwnS w' w.heap.size v n (rowA cts b l n) ∧ OwnI w' w.heap.size vn n (stepTo cts b l n n)) ∨
   (okA cts b l n = false ∧ e = .returned (.tuple #[.slice none 0 0, .slice none 0 0, .int .i64 10]))) ∧ Below w.heap.size w w'
theorem stepTo_zero (cts : List Ct) (b : Bs) (l : List Int) : stepTo cts b l l.length 0 = l := by
 unfold stepTo
 apply List.ext_getElem
 ·
  simp
 ·
  intro i h1 h2
  simp [List.getD, List.getElem?_eq_getElem h2]
theorem stepTo_set (cts : List Ct) (b : Bs) (l : List Int) (n k : Nat) (y : Int) (hk : k < n) (hy : y = l.getD k 0 + xAt cts b l k) : ((stepTo cts b l n k).map (Value.int .i64)).set k (.int .i64 y) = (stepTo cts b l n (k + 1)).map (Value.int .i64) := by
 unfold stepTo
 apply List.ext_getElem
 ·
  simp
 ·
  intro i h1 h2
  rw [List.getElem_set]
  by_cases h : k = i
  ·
   subst h; simp [hy]
  ·
   rw [if_neg h]
   by_cases h3 : i < k
   ·
    simp [h3, Nat.lt_succ_of_lt h3]
   ·
    simp [h3, show ¬ i < k + 1 from by omega]
theorem okA_no (cts : List Ct) (b : Bs) (l : List Int) (n k : Nat) (hk : k < n) (h : mrB (l.getD k 0 + xAt cts b l k) = false) : okA cts b l n = false := by
 unfold okA
 rw [Bool.and_eq_false_iff]
 right
 rw [List.all_eq_false]
 exact ⟨k, by simpa using hk, by simp only [h]; decide⟩
theorem okA_yes (cts : List Ct) (b : Bs) (l : List Int) (n : Nat) (hb : bsR b = true) (h : ∀ k, k < n → mrB (l.getD k 0 + xAt cts b l k) = true) : okA cts b l n = true := by
 unfold okA
 rw [hb, Bool.true_and, List.all_eq_true]
 intro k hk
 exact h k (by simpa using hk)
theorem all_mr {l : List Int} (h : l.all mrB = true) (k : Nat) : -100000000000 ≤ l.getD k 0 ∧ l.getD k 0 ≤ 100000000000 := by
 rw [List.all_eq_true] at h
 by_cases hk : k < l.length
 ·
  have := miz.1 (h l[k] (List.getElem_mem hk))
  simp [List.getD, List.getElem?_eq_getElem hk]
  exact this
 ·
  simp [List.getD, List.getElem?_eq_none (by omega : l.length ≤ k)]
theorem period_c (cts : List Ct) (As Ac Ak A : Option Addr) (ns cs nc cc nk ck c : Nat) (lim rnd : Int) (bc bt bs : Int) (l : List Int) (w : World) (hs : CtSl w Ac nc cts) (hok : ∀ k, k < nc → CtOK (cts.getD k ct0)) (hl : I64Sl w A nc l) (hr : l.all mrB = true) (hn : nc ≤ 1000) :
  Calls prog 160 #[.agg #[.slice As ns cs, .slice Ac nc cc, .slice Ak nk ck, .int .i64 lim, .int .i64 rnd], .agg #[.int .i64 bc, .int .i64 bt, .int .i64 bs], .slice A nc c] w (PerR cts ⟨bc, bt, bs⟩ l nc w) := by
 have tn : ((nc : Int) != (nc : Int)) = false := by simp
 have HB := hid (bright_c ⟨bc, bt, bs⟩)
 cases hb : bsR ⟨bc, bt, bs⟩
 ·
  rw [hb] at HB
  have HN : Hid (okA cts ⟨bc, bt, bs⟩ l nc = false) := by unfold Hid okA; rw [hb]; rfl
  clear hb
  go_enter func160, ntmps160
  go_wp2_with fail
  refine (HB.out _).mono ?_
  rintro e w1 ⟨rfl, hb1⟩
  go_wp2_with fail
  go_ret3
  exact ⟨Or.inr ⟨HN.out, rfl⟩, bT (bA (bz1 _ _) _) hb1⟩
 rw [hb] at HB
 have HS := hid hs
 have HL := hid hl
 have HR := hid hr
 have HOK := hid hok
 have HBS := hid hb
 clear hs hl hr hok hb
 have y0 := Blk.mk (w.alloc (.cells #[.slice As ns cs, .slice Ac nc cc, .slice Ak nk ck, .int .i64 lim, .int .i64 rnd] 26)) 41 #[.int .i64 bc, .int .i64 bt, .int .i64 bs]
 rw [World.size_alloc] at y0
 have z0 := (Blk.mk w 26 #[.slice As ns cs, .slice Ac nc cc, .slice Ak nk ck, .int .i64 lim, .int .i64 rnd]).alloc (.cells #[.int .i64 bc, .int .i64 bt, .int .i64 bs] 41)
 have hb0 := bA (bz1 w (.cells #[.slice As ns cs, .slice Ac nc cc, .slice Ak nk ck, .int .i64 lim, .int .i64 rnd] 26)) (.cells #[.int .i64 bc, .int .i64 bt, .int .i64 bs] 41)
 go_enter func160, ntmps160
 go_wp2_with fail
 refine (HB.out _).mono ?_
 rintro e w1 ⟨rfl, hb1⟩
 have y1 := y0.t hb1
 have z1 := z0.t hb1
 have hb2 := bT hb0 hb1
 go_wp2_with fail
 refine (right_sl A nc c l _ (HL.out.below hb2)).mono ?_
 rw [HR.out]
 rintro e w' ⟨rfl, rfl⟩
 go_wp2_with fail
 refine (clone64_c A nc c l _ (HL.out.below hb2) (by omega)).mono ?_
 rintro e w2 ⟨⟨vn0, rfl, hvn1, hvn⟩, hb3⟩
 have y2 := y1.t hb3
 have z2 := z1.t hb3
 have hb4 := bT hb2 hb3
 obtain ⟨q0, q1, q2, q3, q4⟩ := z2.all5
 have HV1 := hid hvn1
 clear hvn1
 go_wp2_with fail
 go_loopw [9, 35] (fun v i wr => ∃ k : Nat, k ≤ nc ∧ i = .int .i64 k ∧ Hid (∀ j, j < k → mrB (l.getD j 0 + xAt cts ⟨bc, bt, bs⟩ l j) = true) ∧ OwnS wr w.heap.size v k (rowA cts ⟨bc, bt, bs⟩ l k) ∧ OwnI wr w.heap.size vn0 nc (stepTo cts ⟨bc, bt, bs⟩ l nc k) ∧ Below w.heap.size w wr ∧ Blk wr (w.heap.size + 1) 41 #[.int .i64 bc, .int .i64 bt, .int .i64 bs]) (fun _ i _ => nc - (intOf i).toNat)
 case atStart => exact ⟨0, Nat.zero_le _, rfl, fun j hj => absurd hj (by omega), ⟨by simp [rowA], World.ownsRow_nil _ _ _ _⟩, ⟨by simp [stepTo], by
  have := stepTo_zero cts ⟨bc, bt, bs⟩ l
  rw [← HV1.out] at this
  rw [this]
  exact oM9 hvn hb2.size⟩, hb4, y2⟩
 case round =>
  obtain ⟨k, hk', rfl, hM, ⟨ho1, ho⟩, ⟨hv1, hv⟩, hbl, y⟩ := hrel
  have HO1 := hid ho1
  have HV1 := hid hv1
  clear ho1 hv1
  by_cases hk : k < nc
  case neg =>
   obtain rfl : k = nc := by omega
   go_wp2_with fail
   go_ret3
   exact ⟨Or.inl ⟨okA_yes cts ⟨bc, bt, bs⟩ l _ HBS.out hM.out, _, _, rfl, ⟨HO1.out, ho⟩, ⟨HV1.out, hv⟩⟩, hbl⟩
  obtain ⟨b, off, rfl, hlt, hat⟩ := (HS.out.below hbl).2.2 (by omega)
  obtain ⟨c0, _, c1, ⟨A', n', c', c2, hbs⟩, c3, c4, c5⟩ := hat k hk
  obtain ⟨ba, offa, rfl, hlta, hata⟩ := (HL.out.below hbl).2.2 (by omega)
  have d0 := hata k hk
  have hOK := HOK.out k hk
  have har := all_mr HR.out k
  have hxs := x_bd (cts.getD k ct0) ⟨bc, bt, bs⟩ (l.getD k 0) HBS.out
  obtain ⟨x, hx⟩ : ∃ x, x = xAt cts ⟨bc, bt, bs⟩ l k := ⟨_, rfl⟩
  rw [show xI (cts.getD k ct0) ⟨bc, bt, bs⟩ (l.getD k 0) = x from hx.symm] at hxs
  have hsh : Hid (rowA cts ⟨bc, bt, bs⟩ l (k + 1) = rowA cts ⟨bc, bt, bs⟩ l k ++ [shI (cts.getD k ct0) x]) := by
   unfold Hid rowA
   rw [List.range_succ, List.map_append, hx]
   rfl
  have hset := hid (fun y => stepTo_set cts ⟨bc, bt, bs⟩ l nc k y hk)
  have hno := hid (okA_no cts ⟨bc, bt, bs⟩ l nc k hk)
  have hxm : mrB x = true := mr_t (by omega)
  have hcut : xI (cts.getD k ct0) ⟨bc, bt, bs⟩ (l.getD k 0) = x := hx.symm
  rw [← hx] at hno hset
  have HMX : Hid (mrB (l.getD k 0 + x) = true → ∀ j, j < k + 1 → mrB (l.getD j 0 + xAt cts ⟨bc, bt, bs⟩ l j) = true) := fun h j hj => by
   rcases (by omega : j = k ∨ j < k) with rfl | hj
   ·
    rw [← hx]; exact h
   ·
    exact hM.out j hj
  have HCt := hid hat
  clear hx hat hata
  unfold shI at hsh
  generalize l.getD k 0 = ah at *
  generalize cts.getD k ct0 = ct at *
  obtain ⟨nm, base, bands, pc, yc, rd⟩ := ct
  obtain ⟨_, okb, okm, okp, oky, okl⟩ := hOK
  dsimp only at c0 c1 c2 c3 c4 c5 hbs okb okm okp oky okl hcut hsh
  have hbd := bandS_bd bands okl x hxm
  have KO := hid (on_c nm base pc yc rd A' n' c' ⟨bc, bt, bs⟩)
  have KU := hid (under_c nm base pc yc rd A' n' c' (onI base ⟨bc, bt, bs⟩) ah · (by omega) (by omega))
  unfold xI at hcut
  dsimp only at hcut
  rw [hcut] at KU
  clear hcut
  have KD := hid (fun W h => sdue_t nm base pc yc rd A' n' c' bands x W h okl hxm okm (i53.2 (by omega)) (i53.2 (by omega)))
  generalize onI base ⟨bc, bt, bs⟩ = o at *
  generalize ro9 (bandS (·.r) bands x) 10000 rd = ra at *
  generalize ro9 (bandS (·.e) bands x) 10000 rd = rb at *
  clear hbd okl
  have y2 := y.alloc (.cells #[.string nm, .int .i64 base, .slice A' n' c', .int .i64 pc, .int .i64 yc, .int .i64 rd] 195)
  have cb := Blk.mk wr 195 #[.string nm, .int .i64 base, .slice A' n' c', .int .i64 pc, .int .i64 yc, .int .i64 rd]
  have HO := hid (ho.alloc (.cells #[.string nm, .int .i64 base, .slice A' n' c', .int .i64 pc, .int .i64 yc, .int .i64 rd] 195))
  have HV := hid (hv.alloc (.cells #[.string nm, .int .i64 base, .slice A' n' c', .int .i64 pc, .int .i64 yc, .int .i64 rd] 195))
  have hb5 := bA hbl (.cells #[.string nm, .int .i64 base, .slice A' n' c', .int .i64 pc, .int .i64 yc, .int .i64 rd] 195)
  have d1 := ((bz1 wr (.cells #[.string nm, .int .i64 base, .slice A' n' c', .int .i64 pc, .int .i64 yc, .int .i64 rd] 195)).cell (p := ⟨ba, offa + k, none⟩) hlta).trans d0
  have hbs1 := hbs.below (bz1 wr (.cells #[.string nm, .int .i64 base, .slice A' n' c', .int .i64 pc, .int .i64 yc, .int .i64 rd] 195))
  have hsz := hbl.size
  have hlt2 : ba < (wr.alloc (.cells #[.string nm, .int .i64 base, .slice A' n' c', .int .i64 pc, .int .i64 yc, .int .i64 rd] 195)).heap.size := by simp; omega
  clear ho hv
  go_wp2_with fail
  generalize hW5 : wr.alloc (.cells #[.string nm, .int .i64 base, .slice A' n' c', .int .i64 pc, .int .i64 yc, .int .i64 rd] 195) = w5 at *
  clear hW5
  have G : Hid (∀ W, Below w5.heap.size w5 W → Below w5.heap.size w5 W ∧ W.cell? ⟨wr.heap.size, 0, none⟩ = some (.string nm) ∧ W.cell? ⟨wr.heap.size, 1, none⟩ = some (.int .i64 base) ∧ W.cell? ⟨wr.heap.size, 2, none⟩ = some (.slice A' n' c') ∧ W.cell? ⟨wr.heap.size, 3, none⟩ = some (.int .i64 pc) ∧ W.cell? ⟨wr.heap.size, 4, none⟩ = some (.int .i64 yc) ∧ W.cell? ⟨wr.heap.size, 5, none⟩ = some (.int .i64 rd) ∧ W.cell? ⟨w.heap.size + 1, 0, none⟩ = some (.int .i64 bc) ∧ W.cell? ⟨w.heap.size + 1, 1, none⟩ = some (.int .i64 bt) ∧ W.cell? ⟨w.heap.size + 1, 2, none⟩ = some (.int .i64 bs) ∧ W.cell? ⟨ba, offa + k, none⟩ = some (.int .i64 ah)) := fun W hW =>
   ⟨hW, (cb.t hW).cell 0, (cb.t hW).cell 1, (cb.t hW).cell 2, (cb.t hW).cell 3, (cb.t hW).cell 4, (cb.t hW).cell 5, (y2.t hW).cell 0, (y2.t hW).cell 1, (y2.t hW).cell 2, (hW.cell (p := ⟨ba, offa + k, none⟩) hlt2).trans d1⟩
  go_region_held3 (fun W => Below w5.heap.size w5 W ∧ W.cell? ⟨wr.heap.size, 0, none⟩ = some (.string nm) ∧ W.cell? ⟨wr.heap.size, 1, none⟩ = some (.int .i64 base) ∧ W.cell? ⟨wr.heap.size, 2, none⟩ = some (.slice A' n' c') ∧ W.cell? ⟨wr.heap.size, 3, none⟩ = some (.int .i64 pc) ∧ W.cell? ⟨wr.heap.size, 4, none⟩ = some (.int .i64 yc) ∧ W.cell? ⟨wr.heap.size, 5, none⟩ = some (.int .i64 rd) ∧ W.cell? ⟨w.heap.size + 1, 0, none⟩ = some (.int .i64 bc) ∧ W.cell? ⟨w.heap.size + 1, 1, none⟩ = some (.int .i64 bt) ∧ W.cell? ⟨w.heap.size + 1, 2, none⟩ = some (.int .i64 bs) ∧ W.cell? ⟨ba, offa + k, none⟩ = some (.int .i64 ah))
   (first | assumption | exact G.out _ (b0 _).drew | (exact sK G.out (by assumption) (by assumption)))
   (first | (go_at_call 180; refine (KO.out _).mono ?_; rintro e w6 ⟨rfl, hb6⟩) | (go_at_call 179; refine (KU.out _).mono ?_; rintro e w7 ⟨rfl, hb7⟩))
  have hB : Below w5.heap.size w5 w7 := (show Below w5.heap.size w5 w7 ∧ _ from by assumption).1
  have cb2 := cb.t hB
  have y3 := y2.t hB
  have HO2 := hid (oB9 HO.out hB)
  have HV2 := hid (oB9 HV.out hB)
  have hb8 := bT hb5 hB
  obtain ⟨p0, p1, p2, p3, p4, p5⟩ := cb2.all6
  have hbs2 := hbs1.below hB
  have d2 := (hB.cell (p := ⟨ba, offa + k, none⟩) hlt2).trans d1
  have hs7 := hB.size
  go_wp2_with fail
  refine (KD.out _ hbs2).mono ?_
  rintro e w8 ⟨rfl, hb9⟩
  have y4 := y3.t hb9
  have HO3 := hid (oB9 HO2.out hb9)
  have HV3 := hid (oB9 HV2.out hb9)
  have hb10 := bT hb8 hb9
  have hlt3 : ba < w7.heap.size := by omega
  have d3 := (hb9.cell (p := ⟨ba, offa + k, none⟩) hlt3).trans d2
  have hs8 := hb9.size
  have hlt4 : ba < w8.heap.size := by omega
  have d4 := ((bz1 w8 (.cells #[.int .i64 ra, .int .i64 rb] 79)).cell (p := ⟨ba, offa + k, none⟩) hlt4).trans d3
  obtain ⟨g, cap, hvn, hgb, hgl, hgc, hg⟩ := own_form HV3.out (by omega)
  subst hvn
  have hg0 := hg.frozenAt k
  have hg1 := hg.cellAt k (by omega)
  have hgk : ((stepTo cts ⟨bc, bt, bs⟩ l nc k).map (Value.int .i64))[k]? = some (.int .i64 ((stepTo cts ⟨bc, bt, bs⟩ l nc k).getD k 0)) := map_getD_int _ k (by rw [← HV1.out]; exact hk)
  rw [hgk] at hg1
  have HG := hid hg
  clear hgk hg
  have kz : ((k : Int)).toNat = k := by omega
  generalize (stepTo cts ⟨bc, bt, bs⟩ l nc k).getD k 0 = old at hg1
  have sb := Blk.mk w8 79 #[.int .i64 ra, .int .i64 rb]
  have hsg : w8.heap.size ≠ g := by omega
  have hm0 : mrB ah = true := mr_t (by omega)
  cases hm : mrB (ah + x)
  ·
   have HN := hid (hno.out hm)
   have HM := hid (show ¬ (mrB ah = true ∧ mrB x = true ∧ mrB (ah + x) = true) from by rw [hm]; simp)
   clear hm
   go_wp2_with fail
   refine (add_f ah x _ HM.out).mono ?_
   rintro e w10 ⟨rfl, hb11⟩
   have e1 := (hb11.cell (p := ⟨g, k, none⟩) (show g < _ by simp; omega)).trans (((bz1 w8 (.cells #[.int .i64 ra, .int .i64 rb] 79)).cell (p := ⟨g, k, none⟩) hgl).trans hg1)
   have e0 := (oB9 (HG.out.alloc (.cells #[.int .i64 ra, .int .i64 rb] 79)) hb11).frozenAt k
   have hbz := bS (bT (bA hb10 _) hb11) (p := ⟨g, k, none⟩) hgb (.int .i64 0)
   clear hgc
   go_wp2_with fail
   go_ret3
   exact ⟨Or.inr ⟨HN.out, rfl⟩, hbz⟩
  ·
   have HM := HMX.out hm
   have HMM := hid HM
   clear HM
   go_wp2_with fail
   refine (add_t ah x _ hm0 hxm hm).mono ?_
   rintro e w10 ⟨rfl, hb11⟩
   have e1 := (hb11.cell (p := ⟨g, k, none⟩) (show g < _ by simp; omega)).trans (((bz1 w8 (.cells #[.int .i64 ra, .int .i64 rb] 79)).cell (p := ⟨g, k, none⟩) hgl).trans hg1)
   have HGG := oB9 (HG.out.alloc (.cells #[.int .i64 ra, .int .i64 rb] 79)) hb11
   have e0 := HGG.frozenAt k
   have hst := HGG.stored k (.int .i64 (ah + x))
   rw [hset.out _ rfl] at hst
   have hbz := bS (bT (bA hb10 _) hb11) (p := ⟨g, k, none⟩) hgb (.int .i64 (ah + x))
   have sb2 := (sb.t hb11).far (a := ⟨g, k, none⟩) hsg (.int .i64 (ah + x))
   have y5 := ((y4.alloc (.cells #[.int .i64 ra, .int .i64 rb] 79)).t hb11).grown hst.2 (obz HGG ((y4.alloc (.cells #[.int .i64 ra, .int .i64 rb] 79)).t hb11) (by decide))
   have HO4 := (oB9 (HO3.out.alloc (.cells #[.int .i64 ra, .int .i64 rb] 79)) hb11).kept hst.2 (ooz (oB9 (HO3.out.alloc (.cells #[.int .i64 ra, .int .i64 rb] 79)) hb11) HGG (by decide))
   have HO5 := hid HO4
   have HST := hid hst
   obtain ⟨s0, s1, s2, s3⟩ := sb2.all2
   have hsz5 := hbz.size
   clear hst HO4 HGG hgc
   go_wp2_with (at_builtin; refine wa9 _ rfl _ _ 71 rfl 79 _ 2 16 underlying71 info_share rfl (by decide) rfl HO5.out _ rfl (by first | rfl | simp) rfl (by simp [Value.oneCell']) (by omega) (by omega) (by first | omega | exact hsz5 | (simp; omega)) ?_; intro v' w11 ho' hg)
   go_roundw
   case rel =>
    refine ⟨k + 1, by omega, by go_num, HMM.out, ⟨by simp [rowA], ?_⟩, ⟨by simp [stepTo], HST.out.1.kept hg (ooz HST.out.1 HO5.out (by decide))⟩, bP hbz HO5.out hg (Nat.le_refl _), y5.grown hg (obz HO5.out y5 (by decide))⟩
    rw [hsh.out, List.flatMap_append]
    simpa [shC] using ho'
   case measure => simp [intOf]; omega
def ahd (cts : List Ct) (l : List Bs) (nc : Nat) : Nat → List Int
 | 0 => List.replicate nc 0
 | k + 1 => stepTo cts (l.getD k bs0) (ahd cts l nc k) nc nc
def okY (cts : List Ct) (l : List Bs) (nc k : Nat) : Bool := okA cts (l.getD k bs0) (ahd cts l nc k) nc
def rowY (cts : List Ct) (l : List Bs) (nc k : Nat) : List Sh := rowA cts (l.getD k bs0) (ahd cts l nc k) nc
theorem okA_all {cts : List Ct} {b : Bs} {l : List Int} {n : Nat} (h : okA cts b l n = true) : ∀ k, k < n → mrB (l.getD k 0 + xAt cts b l k) = true := by
 unfold okA at h
 rw [Bool.and_eq_true, List.all_eq_true] at h
 exact fun k hk => h.2 k (by simpa using hk)
theorem step_mr {cts : List Ct} {b : Bs} {l : List Int} {n : Nat} (h : okA cts b l n = true) : (stepTo cts b l n n).all mrB = true := by
 rw [List.all_eq_true]
 intro x hx
 unfold stepTo at hx
 rw [List.mem_map] at hx
 obtain ⟨i, hi, rfl⟩ := hx
 have hi' : i < n := by simpa using hi
 rw [if_pos hi']
 exact okA_all h i hi'
theorem ahd_mr (cts : List Ct) (l : List Bs) (nc k : Nat) (h : ∀ j, j < k → okY cts l nc j = true) : (ahd cts l nc k).all mrB = true := by
 cases k with
 | zero => simp [ahd]; right; decide
 | succ k => exact step_mr (h k (by omega))
def RowsOwn (w : World) (base : Nat) (v : Value) (n nc : Nat) (f : Nat → List Sh) : Prop :=
 ∃ vs : List Value, w.ownsRow base 71 1 v n vs ∧ ∀ k, k < n → ∃ u, vs[k]? = some u ∧ OwnS w base u nc (f k)
theorem RowsOwn.below {w w' : World} {base : Nat} {v : Value} {n nc : Nat} {f : Nat → List Sh} (h : RowsOwn w base v n nc f) (hb : Below w.heap.size w w') : RowsOwn w' base v n nc f := by
 obtain ⟨vs, h1, h2⟩ := h
 refine ⟨vs, oB9 h1 hb, fun k hk => ?_⟩
 obtain ⟨u, h3, h4, h5⟩ := h2 k hk
 exact ⟨u, h3, h4, oB9 h5 hb⟩
theorem info_row : (prog.info? 71).map (fun i => (i.zero, i.size, i.bytes)) = some (some (.slice none 0 0), 1, 24) := by kernel_rfl
def YearR (cts : List Ct) (l : List Bs) (nc n : Nat) (w : World) (e : Ending) (w' : World) : Prop :=
  (((∀ k, k < n → okY cts l nc k = true) ∧ ∃ v, e = .returned (.tuple #[v, .int .i64 0]) ∧ RowsOwn w' w.heap.size v n nc (rowY cts l nc)) ∨
   ((∃ k, k < n ∧ okY cts l nc k = false) ∧ e = .returned (.tuple #[.slice none 0 0, .int .i64 10]))) ∧ Below w.heap.size w w'
theorem year_c (cts : List Ct) (As Ac Ak A : Option Addr) (ns cs nc cc nk ck n c : Nat) (lim rnd : Int) (l : List Bs) (w : World) (hs : CtSl w Ac nc cts) (hok : ∀ k, k < nc → CtOK (cts.getD k ct0)) (hl : BsSl w A n l) (hn : nc ≤ 1000) (hn2 : n ≤ 1000) :
    Calls prog 126 #[.agg #[.slice As ns cs, .slice Ac nc cc, .slice Ak nk ck, .int .i64 lim, .int .i64 rnd], .slice A n c] w (YearR cts l nc n w) := by
  have HS := hid hs
  have HL := hid hl
  have HOK := hid hok
  have hmk := fun W => run_make_K (P := prog) 165 2 (.int .i64 0) 1 8 underlying165 info_i64 nc (by omega) (by omega) W
  have hz : (Value.cells (.int .i64 0)) = #[.int .i64 0] := rfl
  rw [hz, Nat.mul_one] at hmk
  have hmo := own_made (w.alloc (.cells #[.slice As ns cs, .slice Ac nc cc, .slice Ak nk ck, .int .i64 lim, .int .i64 rnd] 26)) 2 #[.int .i64 0] 1 nc (by omega) (base := w.heap.size) (by simp)
  rw [Nat.mul_one, toList_madeCells_one] at hmo
  have HMO := hid hmo
  have z0 := (Blk.mk w 26 #[.slice As ns cs, .slice Ac nc cc, .slice Ak nk ck, .int .i64 lim, .int .i64 rnd]).alloc (.cells (madeCells #[.int .i64 0] nc) 2)
  have hb0 := bA (bz1 w (.cells #[.slice As ns cs, .slice Ac nc cc, .slice Ak nk ck, .int .i64 lim, .int .i64 rnd] 26)) (.cells (madeCells #[.int .i64 0] nc) 2)
  clear hs hl hok hz hmo
  go_enter func126, ntmps126
  go_wp2_with fail
  clear hmk
  go_loopw [6, 7, 19] (fun va v i wr => ∃ k : Nat, k ≤ n ∧ i = .int .i64 k ∧ Hid (∀ j, j < k → okY cts l nc j = true) ∧ OwnI wr w.heap.size va nc (ahd cts l nc k) ∧ RowsOwn wr w.heap.size v k nc (rowY cts l nc) ∧ Below w.heap.size w wr ∧ Blk wr w.heap.size 26 #[.slice As ns cs, .slice Ac nc cc, .slice Ak nk ck, .int .i64 lim, .int .i64 rnd]) (fun _ _ i _ => n - (intOf i).toNat)
  case atStart => exact ⟨0, Nat.zero_le _, rfl, fun j hj => absurd hj (by omega), ⟨by simp [ahd], by have := HMO.out; simpa [ahd] using this⟩, ⟨[], World.ownsRow_nil _ _ _ _, fun k hk => absurd hk (by omega)⟩, hb0, z0⟩
  case round =>
    obtain ⟨k, hk', rfl, hM, hv, ⟨vs, ho, hrows⟩, hbl, z⟩ := hrel
    by_cases hk : k < n
    case neg =>
      obtain rfl : k = n := by omega
      have HR := hid hrows
      clear hrows
      go_wp2_with fail
      go_ret2
      exact ⟨Or.inl ⟨hM.out, _, rfl, vs, ho, HR.out⟩, hbl⟩
    obtain ⟨b, off, rfl, hlt, hat⟩ := (HL.out.below hbl).2.2 (by omega)
    obtain ⟨c0, c1, c2⟩ := hat k hk
    obtain ⟨Aa, ca, rfl, hca, hva⟩ := hv.sl
    have hmr := ahd_mr cts l nc k hM.out
    have KP := hid (fun W h1 h2 => period_c cts As Ac Ak Aa ns cs nc cc nk ck ca lim rnd (l.getD k bs0).c (l.getD k bs0).t (l.getD k bs0).s (ahd cts l nc k) W h1 HOK.out h2 hmr hn)
    have HP : Hid (∀ W e w', PerR cts ⟨(l.getD k bs0).c, (l.getD k bs0).t, (l.getD k bs0).s⟩ (ahd cts l nc k) nc W e w' →
       ((okY cts l nc k = true ∧ ∃ v vn, e = .returned (.tuple #[v, vn, .int .i64 0]) ∧ OwnS w' W.heap.size v nc (rowY cts l nc k) ∧ OwnI w' W.heap.size vn nc (ahd cts l nc (k + 1))) ∨
   (okY cts l nc k = false ∧ e = .returned (.tuple #[.slice none 0 0, .slice none 0 0, .int .i64 10]))) ∧ Below W.heap.size W w') := fun W e w' h => h
    have HR := hid hrows
    have HV := hid hv
    have HA := hid hva
    clear hat hmr hrows hv hva
    generalize (l.getD k bs0).c = bc at *
    generalize (l.getD k bs0).t = bt at *
    generalize (l.getD k bs0).s = bs at *
    have z1 := z.alloc (.cells #[.int .i64 bc, .int .i64 bt, .int .i64 bs] 41)
    have hb1 := bA hbl (.cells #[.int .i64 bc, .int .i64 bt, .int .i64 bs] 41)
    have HO := hid (ho.alloc (.cells #[.int .i64 bc, .int .i64 bt, .int .i64 bs] 41))
    have HA1 := hid (HA.out.below (bz1 wr (.cells #[.int .i64 bc, .int .i64 bt, .int .i64 bs] 41)))
    obtain ⟨p0, p1, p2, p3, p4⟩ := z1.all5
    have hsz := hbl.size
    go_wp2_with fail
    refine (KP.out _ (HS.out.below hb1) HA1.out).mono ?_
    intro e w1 hper
    obtain ⟨⟨hyes, vr, vn, rfl, hvr, hvn⟩ | ⟨hno, rfl⟩, hbp⟩ := HP.out _ _ _ hper
    case inr =>
      clear hper
      have HN := hid hno
      clear hno
      go_wp2_with fail
      go_ret2
      exact ⟨Or.inr ⟨⟨k, hk, HN.out⟩, rfl⟩, bT hb1 hbp⟩
    clear hper
    obtain ⟨Ar, cr, rfl⟩ := oL9 hvr.2
    have HY := hid hyes
    have HVR := hid hvr
    have HVN := hid hvn
    have z2 := z1.t hbp
    have hb2 := bT hb1 hbp
    have HO2 := hid (oB9 HO.out hbp)
    have hs2 := hb2.size
    clear hyes hvr hvn
    go_wp2_with (at_builtin; refine wa9 _ rfl _ _ 226 rfl 71 _ 1 24 underlying226 info_row rfl (by decide) rfl HO2.out _ rfl (by first | rfl | simp) rfl (by simp [Value.oneCell']) (by omega) (by omega) (by first | omega | (simp; omega)) ?_; intro v' w11 ho' hg)
    go_roundw
    case rel =>
      have hls : vs.length = k := by simpa using ho.1
      refine ⟨k + 1, by omega, by go_num, fun j hj => ?_, ⟨HVN.out.1, ?_⟩, ⟨vs ++ [.slice Ar nc cr], ?_, fun j hj => ?_⟩, bP hb2 HO2.out hg (Nat.le_refl _), z2.grown hg (obz HO2.out z2 (by decide))⟩
      · rcases (by omega : j = k ∨ j < k) with rfl | hj
        · exact HY.out
        · exact hM.out j hj
      · have := HVN.out.2.kept hg (ooz HVN.out.2 HO2.out (by decide))
        exact oM9 this (by simp; omega)
      · simpa using ho'
      · rcases (by omega : j = k ∨ j < k) with rfl | hj
        · refine ⟨_, getElem_snoc _ _ _ hls, HVR.out.1, ?_⟩
          have := HVR.out.2.kept hg (ooz HVR.out.2 HO2.out (by decide))
          exact oM9 this (by simp; omega)
        · obtain ⟨u, h3, h4, h5⟩ := HR.out j hj
          have h6 := oB9 (oB9 h5 (bz1 wr (.cells #[.int .i64 bc, .int .i64 bt, .int .i64 bs] 41))) hbp
          exact ⟨u, by rw [List.getElem?_append_left (by omega)]; exact h3, h4, h6.kept hg (ooz h6 HO2.out (by decide))⟩
    case measure => simp [intOf]; omega
theorem tb_of {t : Tb} (h : tbE t = 0) : TbOK t.sch t.cts t.kds t.lim t.rnd ∧ t.sch.length ≤ 8 ∧ t.cts.length ≤ 6 ∧ t.kds.length ≤ 12 ∧ 1 ≤ t.kds.length := by
 unfold tbE at h
 have h1 : rateB t.lim = true := by
  cases hh : rateB t.lim with
  | true => rfl
  | false => rw [if_pos hh] at h; cases h
 rw [if_neg (by rw [h1]; decide)] at h
 have h2 : modeB t.rnd = true := by
  cases hh : modeB t.rnd with
  | true => rfl
  | false => rw [if_pos hh] at h; cases h
 rw [if_neg (by rw [h2]; decide)] at h
 have h3 : scsE t.sch = 0 := by
  by_cases e : scsE t.sch = 0
  ·
   exact e
  ·
   rw [if_pos e] at h; exact absurd h e
 rw [if_neg (fun e => e h3)] at h
 have h4 : ctsE t.cts = 0 := by
  by_cases e : ctsE t.cts = 0
  ·
   exact e
  ·
   rw [if_pos e] at h; exact absurd h e
 rw [if_neg (fun e => e h4)] at h
 unfold scsE at h3
 by_cases e3 : t.sch.length = 0 ∨ 8 < t.sch.length
 ·
  rw [if_pos e3] at h3; cases h3
 rw [if_neg e3] at h3
 unfold ctsE at h4
 by_cases e4 : 6 < t.cts.length
 ·
  rw [if_pos e4] at h4; cases h4
 rw [if_neg e4] at h4
 unfold kdsE at h
 by_cases e5 : t.kds.length = 0 ∨ 12 < t.kds.length
 ·
  rw [if_pos e5] at h; cases h
 rw [if_neg e5] at h
 have g3 := faz _ _ h3
 have g4 := faz _ _ h4
 have g5 := faz _ _ h
 refine ⟨⟨h1, h2, by omega, fun k hk => ?_, fun k hk => ?_, fun k hk => ?_⟩, by omega, by omega, by omega, by omega⟩
 ·
  have g := g3 k hk
  unfold scsF scE1 at g
  generalize t.sch.getD k [] = x at *
  by_cases e : bE9 x = 0
  ·
   rw [if_neg (fun h => h e)] at g
   refine ⟨e, fun i hi => ?_⟩
   by_cases e2 : (x.getD i bd0).e = 0
   ·
    exact e2
   ·
    rw [if_pos ⟨i, hi, e2⟩] at g; cases g
  ·
   rw [if_pos e] at g; exact absurd g e
 ·
  have g := g4 k hk
  unfold ctsF ctE at g
  generalize t.cts.getD k ct0 = x at *
  by_cases a1 : nameB x.nm = false
  ·
   rw [if_pos a1] at g; cases g
  rw [if_neg a1] at g
  by_cases a2 : 0 ≤ nmX Ct.nm (t.cts.take k) x.nm
  ·
   rw [if_pos a2] at g; cases g
  rw [if_neg a2] at g
  by_cases a3 : x.base ≠ 1 ∧ x.base ≠ 2
  ·
   rw [if_pos a3] at g; cases g
  rw [if_neg a3] at g
  by_cases a4 : modeB x.rd = false
  ·
   rw [if_pos a4] at g; cases g
  rw [if_neg a4] at g
  by_cases a5 : x.pc < 0
  ·
   rw [if_pos a5] at g; cases g
  rw [if_neg a5] at g
  by_cases a6 : 100000000000 < x.pc
  ·
   rw [if_pos a6] at g; cases g
  rw [if_neg a6] at g
  by_cases a7 : x.yc < 0
  ·
   rw [if_pos a7] at g; cases g
  rw [if_neg a7] at g
  by_cases a8 : 100000000000 < x.yc
  ·
   rw [if_pos a8] at g; cases g
  rw [if_neg a8] at g
  exact ⟨by simpa using a1, by omega, by simpa using a4, by omega, by omega, g⟩
 ·
  have g := g5 k hk
  unfold kdsF kdE1 at g
  generalize t.kds.getD k kd0 = x at *
  by_cases a1 : nameB x.nm = false
  ·
   rw [if_pos a1] at g; cases g
  rw [if_neg a1] at g
  by_cases a2 : 0 ≤ nmX Kd.nm (t.kds.take k) x.nm
  ·
   rw [if_pos a2] at g; cases g
  rw [if_neg a2] at g
  by_cases a3 : decide (-1 ≤ x.c ∧ x.c ≤ 1) = false
  ·
   rw [if_pos a3] at g; cases g
  rw [if_neg a3] at g
  by_cases a4 : decide (-1 ≤ x.t ∧ x.t ≤ 1) = false
  ·
   rw [if_pos a4] at g; cases g
  rw [if_neg a4] at g
  by_cases a5 : decide (-1 ≤ x.s ∧ x.s ≤ 1) = false
  ·
   rw [if_pos a5] at g; cases g
  exact ⟨by simpa using a1, by simpa using a3, by simpa using a4, by simpa using a5⟩
def maxTo (acc : Int) (l : List Bd) : Nat → Int
 | 0 => acc
 | k + 1 => max (maxTo acc l k) (l.getD k bd0).r
def maxS (lim : Int) (sch : List (List Bd)) : Nat → Int
 | 0 => lim
 | i + 1 => maxTo (maxS lim sch i) (sch.getD i []) (sch.getD i []).length
def cutC (cts : List Ct) : Nat → Int
 | 0 => 0
 | i + 1 => cutC cts i + maxTo 0 (cts.getD i ct0).bands (cts.getD i ct0).bands.length
def keptI (t : Tb) : Int := 10000 - maxS t.lim t.sch t.sch.length - cutC t.cts t.cts.length
def keepE (t : Tb) : Int := if tbE t ≠ 0 then tbE t else if keptI t * 20 < 10000 then 100 else 0
theorem maxTo_bd {acc : Int} {l : List Bd} (ha : 0 ≤ acc ∧ acc ≤ 10000) : ∀ n, (∀ k, k < n → 0 ≤ (l.getD k bd0).r ∧ (l.getD k bd0).r ≤ 10000) → 0 ≤ maxTo acc l n ∧ maxTo acc l n ≤ 10000
 | 0, _ => ha
 | n + 1, h => by
  have h1 := maxTo_bd ha n (fun k hk => h k (by omega))
  have h2 := h n (by omega)
  rw [maxTo]; omega
theorem maxS_bd {lim : Int} {sch : List (List Bd)} (hl : 0 ≤ lim ∧ lim ≤ 10000) : ∀ n, (∀ i, i < n → bE9 (sch.getD i []) = 0) → 0 ≤ maxS lim sch n ∧ maxS lim sch n ≤ 10000
 | 0, _ => hl
 | n + 1, h => by
  have h1 := maxS_bd hl n (fun i hi => h i (by omega))
  exact maxTo_bd h1 _ (fun k hk => (goodB _ (h n (by omega))).r k hk)
theorem cutC_bd {cts : List Ct} : ∀ n, (∀ i, i < n → bE9 (cts.getD i ct0).bands = 0) → 0 ≤ cutC cts n ∧ cutC cts n ≤ n * 10000
 | 0, _ => by simp [cutC]
 | n + 1, h => by
  have h1 := cutC_bd n (fun i hi => h i (by omega))
  have h2 := maxTo_bd (acc := 0) (by decide) _ (fun k hk => (goodB _ (h n (by omega))).r k hk)
  rw [cutC]; push_cast; omega
def elB (kds : List Kd) (z : El) : Bs := ⟨elV z.a z.u * (kdX kds z.k).c, elV z.a z.u * (kdX kds z.k).t, elV z.a z.u * (kdX kds z.k).s⟩
def sumB (f : Nat → Bs) : Nat → Bs
 | 0 => bs0
 | k + 1 => bothV Ao9 (sumB f k) (f k)
def sumBE (f : Nat → Bs) (n : Nat) : Int := fz9 (fun k => bEz Ao9 (sumB f k) (f k)) n
def ofF (kds : List Kd) (L : List El) (k : Nat) : Bs := elB kds (L.getD k el0)
def ofE (kds : List Kd) (L : List El) : Int := if kAz kds L L.length ≠ 0 then kAz kds L L.length else sumBE (ofF kds L) L.length
def ofV (kds : List Kd) (L : List El) : Bs := if ofE kds L = 0 then sumB (ofF kds L) L.length else bs0
def yEz (l : List Bs) : Int := sumBE (fun k => l.getD k bs0) l.length
def yearV (l : List Bs) : Bs := if yEz l = 0 then sumB (fun k => l.getD k bs0) l.length else bs0
theorem kd_range {kds : List Kd} (h : ∀ k, k < kds.length → KdOK (kds.getD k kd0)) (nm : ByteArray) : (-1 ≤ (kdX kds nm).c ∧ (kdX kds nm).c ≤ 1) ∧ (-1 ≤ (kdX kds nm).t ∧ (kdX kds nm).t ≤ 1) ∧ (-1 ≤ (kdX kds nm).s ∧ (kdX kds nm).s ≤ 1) := by
 unfold kdX
 cases hf : kds.find? (fun x => decide (x.nm = nm)) with
 | none => exact ⟨by decide, by decide, by decide⟩
 | some x =>
  have hm := List.mem_of_find?_eq_some hf
  obtain ⟨k, hk, rfl⟩ := List.getElem_of_mem hm
  have := h k hk
  rw [getD_get hk] at this
  exact ⟨this.c, this.t, this.s⟩
theorem mul_one_bd {v k : Int} (hv : -100000000000 ≤ v ∧ v ≤ 100000000000) (hk : -1 ≤ k ∧ k ≤ 1) : -100000000000 ≤ v * k ∧ v * k ≤ 100000000000 := by
 rcases (by omega : k = -1 ∨ k = 0 ∨ k = 1) with rfl | rfl | rfl <;> omega
theorem elV_bd (a u : Int) : -100000000000 ≤ elV a u ∧ elV a u ≤ 100000000000 := by
 unfold elV
 by_cases h : elE a u = 0
 ·
  rw [if_pos h]
  unfold elE at h
  by_cases h1 : mrB a = false
  ·
   rw [if_pos h1] at h; cases h
  rw [if_neg h1] at h
  by_cases h2 : u < 0 ∨ 100000 < u
  ·
   rw [if_pos h2] at h; cases h
  rw [if_neg h2] at h
  by_cases h3 : mrB (ro9 (a * u) 100 4) = true
  ·
   exact miz.1 h3
  ·
   rw [if_neg h3] at h; cases h
 ·
  rw [if_neg h]; omega
theorem bYear_c (l : List Bs) (A : Option Addr) (n c : Nat) (w : World) (hl : BsSl w A n l) (re : Int) (rv : Bs) (he : Hid (re = yEz l)) (hv : Hid (rv = yearV l)) :
  Calls prog 82 #[.slice A n c] w fun e w' => e = .returned (.tuple #[.agg #[.int .i64 rv.c, .int .i64 rv.t, .int .i64 rv.s], .int .i64 re]) ∧ Below w.heap.size w w' := by
 have HL := hid hl
 have HN : Hid (n = l.length) := hl.1
 have hn9 := hl.2.1
 have r0 := (Blk.mk w 41 #[.int .i64 0, .int .i64 0, .int .i64 0]).alloc (.cells #[.int .i64 0, .int .i64 0, .int .i64 0] 41)
 have u0 := Blk.mk (w.alloc (.cells #[.int .i64 0, .int .i64 0, .int .i64 0] 41)) 41 #[.int .i64 0, .int .i64 0, .int .i64 0]
 simp only [World.size_alloc] at u0
 have HR := hid r0
 have HU := hid u0
 have HB : Hid (Below w.heap.size w ((w.alloc (.cells #[.int .i64 0, .int .i64 0, .int .i64 0] 41)).alloc (.cells #[.int .i64 0, .int .i64 0, .int .i64 0] 41))) := bA (bz1 w _) _
 have HST : Hid (∀ k, k < n → fz9 (fun k => bEz Ao9 (sumB (fun k => l.getD k bs0) k) (l.getD k bs0)) k = 0 → bEz Ao9 (sumB (fun k => l.getD k bs0) k) (l.getD k bs0) ≠ 0 → re = 10 ∧ rv = bs0) := fun k hk h0 h1 => by
  have e1 : yEz l = 10 := by
   unfold yEz sumBE
   rw [fS9 (fun k => bEz Ao9 (sumB (fun k => l.getD k bs0) k) (l.getD k bs0)) k _ h0 h1 (by have := HN.out; omega)]
   show bEz _ _ _ = 10
   unfold bEz at h1 ⊢
   split at h1
   ·
    exact absurd rfl h1
   ·
    rw [if_neg ‹_›]
  exact ⟨he.out.trans e1, hv.out.trans (by unfold yearV; rw [if_neg (by rw [e1]; decide)])⟩
 clear hl r0 u0
 go_enter func82, ntmps82
 go_wp2_with fail
 go_loopw [10, 6, 7] (fun i _ _ wr => ∃ (k : Nat) (b : Bs), k ≤ n ∧ i = .int .i64 k ∧ Hid (b = sumB (fun k => l.getD k bs0) k ∧ fz9 (fun k => bEz Ao9 (sumB (fun k => l.getD k bs0) k) (l.getD k bs0)) k = 0) ∧ Hid (Below w.heap.size w wr) ∧ Hid (Blk wr w.heap.size 41 #[.int .i64 0, .int .i64 0, .int .i64 0]) ∧ Hid (Blk wr (w.heap.size + 1) 41 (bsC b))) (fun i _ _ _ => n - (intOf i).toNat)
 case atStart => exact ⟨0, bs0, Nat.zero_le _, rfl, ⟨rfl, rfl⟩, HB, HR, HU⟩
 case round =>
  clear HB HR HU
  obtain ⟨k, b, hk', rfl, HS, HB, HR, HU⟩ := hrel
  have hlt := HU.out.lt
  by_cases hk : k < n
  case neg =>
   obtain rfl : n = k := by omega
   have HE : Hid (re = 0) := he.out.trans (by unfold yEz sumBE; rw [← HN.out]; exact HS.out.2)
   have HV : Hid (rv = b) := hv.out.trans (by unfold yearV; rw [if_pos (by unfold yEz sumBE; rw [← HN.out]; exact HS.out.2), ← HN.out]; exact HS.out.1.symm)
   obtain ⟨b1, b2, b3⟩ := b
   have hu := HU.out
   unfold bsC at hu
   obtain ⟨⟨u0, u1, u2⟩, _⟩ := hu.a3f
   obtain ⟨⟨c0, c1, c2⟩, f0, f1, f2⟩ := HR.out.a3f
   clear hk hk' hu
   go_wp2_with fail
   refine bodyPost_ret (v := .tuple #[.agg #[.int .i64 b1, .int .i64 b2, .int .i64 b3], .int .i64 0]) (by simp [results, results82, go_sem, c0, c1, c2]) rfl ⟨by rw [HE.out, HV.out], ?_⟩
   exact bS (bS (bS HB.out (Nat.le_refl _) _) (Nat.le_refl _) _) (Nat.le_refl _) _
  obtain ⟨bb, off, rfl, hblt, hat⟩ := (HL.out.below HB.out).2.2 (by omega)
  obtain ⟨d0, d1, d2⟩ := hat k hk
  obtain ⟨r2, hr2⟩ : ∃ r2, r2 = bEz Ao9 b (l.getD k bs0) := ⟨_, rfl⟩
  obtain ⟨v2, hv2⟩ : ∃ v2, v2 = bothV Ao9 b (l.getD k bs0) := ⟨_, rfl⟩
  have K := hid (fun W => bAdd_c b (l.getD k bs0) W r2 v2 hr2 hv2)
  have HSK : Hid (r2 ≠ 0 → re = 10 ∧ rv = bs0 ∧ r2 = 10) := fun h => by
   have e := HST.out k hk HS.out.2 (by rw [← HS.out.1, ← hr2]; exact h)
   refine ⟨e.1, e.2, ?_⟩
   rw [hr2] at h ⊢
   unfold bEz at h ⊢
   split at h
   ·
    exact absurd rfl h
   ·
    rw [if_neg ‹_›]
  have HNX : Hid (r2 = 0 → v2 = sumB (fun k => l.getD k bs0) (k + 1) ∧ fz9 (fun k => bEz Ao9 (sumB (fun k => l.getD k bs0) k) (l.getD k bs0)) (k + 1) = 0) := fun h => by
   refine ⟨?_, ft9 _ _ HS.out.2 ?_⟩
   ·
    rw [sumB, ← HS.out.1]; exact hv2
   ·
    rw [← HS.out.1, ← hr2]; exact h
  clear hat hr2 hv2
  generalize l.getD k bs0 = x at *
  obtain ⟨x1, x2, x3⟩ := x
  obtain ⟨b1, b2, b3⟩ := b
  have hu := HU.out
  unfold bsC at hu
  dsimp only at d0 d1 d2 K
  have HXB := hid (bA HB.out (.cells #[.int .i64 x1, .int .i64 x2, .int .i64 x3] 41))
  have HXR := hid (HR.out.alloc (.cells #[.int .i64 x1, .int .i64 x2, .int .i64 x3] 41))
  have HXU := hid (hu.alloc (.cells #[.int .i64 x1, .int .i64 x2, .int .i64 x3] 41))
  obtain ⟨⟨u0, u1, u2⟩, _⟩ := HXU.out.a3f
  clear hu
  go_wp2_with fail
  refine (K.out _).mono ?_
  rintro e W ⟨rfl, hb⟩
  have HYB := hid (bT HXB.out hb)
  have HYR := hid (HXR.out.t hb)
  have hyu := HXU.out.t hb
  obtain ⟨⟨u0, u1, u2⟩, g0, g1, g2⟩ := hyu.a3f
  obtain ⟨y1, y2, y3⟩ := v2
  have HZU := hid (((Blk.setJ hyu 0 (.int .i64 y1)).setJ 1 (.int .i64 y2)).setJ 2 (.int .i64 y3))
  have HZR := hid (((Blk.setO HYR.out (show w.heap.size ≠ w.heap.size + 1 by omega) 0 (.int .i64 y1)).setO (show w.heap.size ≠ w.heap.size + 1 by omega) 1 (.int .i64 y2)).setO (show w.heap.size ≠ w.heap.size + 1 by omega) 2 (.int .i64 y3))
  have HZB := hid (bS (bS (bS HYB.out (p := ⟨w.heap.size + 1, 0, none⟩) (Nat.le_succ _) (.int .i64 y1)) (p := ⟨w.heap.size + 1, 1, none⟩) (Nat.le_succ _) (.int .i64 y2)) (p := ⟨w.heap.size + 1, 2, none⟩) (Nat.le_succ _) (.int .i64 y3))
  clear hb K hyu
  by_cases h0 : r2 = 0
  ·
   have HG := hid (HNX.out h0)
   subst h0
   clear HNX HSK
   dsimp only
   go_wp2_with fail
   go_roundw
   case rel => exact ⟨k + 1, ⟨y1, y2, y3⟩, by omega, by go_num, HG, HZB, HZR, HZU⟩
   case measure => simp [intOf]; omega
  ·
   have tr : (r2 != 0) = true := by simpa using h0
   have HG := hid (HSK.out h0)
   obtain ⟨⟨c0, c1, c2⟩, f0, f1, f2⟩ := HZR.out.a3f
   clear HNX HSK h0
   dsimp only
   go_wp2_with fail
   refine bodyPost_ret (v := .tuple #[.agg #[.int .i64 0, .int .i64 0, .int .i64 0], .int .i64 r2]) (by simp [results, results82, go_sem, c0, c1, c2]) rfl ⟨by rw [HG.out.1, HG.out.2.1, HG.out.2.2] <;> rfl, ?_⟩
   exact bS (bS (bS HZB.out (Nat.le_refl _) _) (Nat.le_refl _) _) (Nat.le_refl _) _
theorem bothE_ten {a b : Bs} (h : bEz Ao9 a b ≠ 0) : bEz Ao9 a b = 10 := by
 unfold bEz at h ⊢
 split at h
 ·
  exact absurd rfl h
 ·
  rw [if_neg ‹_›]
theorem bOf_c (kds : List Kd) (As Ac Ak : Option Addr) (ns cs nc cc nk ck : Nat) (lim rnd : Int) (A : Option Addr) (n c : Nat) (L : List El) (w : World) (hs : KdSl w Ak nk kds) (hok : ∀ k, k < kds.length → KdOK (kds.getD k kd0)) (hl : ElSl w A n L) (re : Int) (rv : Bs) (he : Hid (re = ofE kds L)) (hv : Hid (rv = ofV kds L)) :
  Calls prog 79 #[.agg #[.slice As ns cs, .slice Ac nc cc, .slice Ak nk ck, .int .i64 lim, .int .i64 rnd], .slice A n c] w fun e w' => e = .returned (.tuple #[.agg #[.int .i64 rv.c, .int .i64 rv.t, .int .i64 rv.s], .int .i64 re]) ∧ Below w.heap.size w w' := by
 have HN : Hid (n = L.length) := hl.1
 have hn9 := hl.2.1
 have hb0 := bA (bz1 w (.cells #[.slice As ns cs, .slice Ac nc cc, .slice Ak nk ck, .int .i64 lim, .int .i64 rnd] 26)) (.cells #[.int .i64 0, .int .i64 0, .int .i64 0] 41)
 have HB0 := hid hb0
 have z1 := (Blk.mk w 26 #[.slice As ns cs, .slice Ac nc cc, .slice Ak nk ck, .int .i64 lim, .int .i64 rnd]).alloc (.cells #[.int .i64 0, .int .i64 0, .int .i64 0] 41)
 have z2 := Blk.mk (w.alloc (.cells #[.slice As ns cs, .slice Ac nc cc, .slice Ak nk ck, .int .i64 lim, .int .i64 rnd] 26)) 41 #[.int .i64 0, .int .i64 0, .int .i64 0]
 simp only [World.size_alloc] at z2
 have HZ1 := hid z1
 have HZ2 := hid z2
 have HS := hid hs
 have HL := hid hl
 have HOK := hid hok
 obtain ⟨ce, hce⟩ : ∃ ce, ce = kAz kds L n := ⟨_, rfl⟩
 have KC := hid (eall_c kds As Ac Ak ns cs nc cc nk ck lim rnd A n c L _ (hs.below hb0) (Rlz.below hl hb0) ce hce)
 obtain ⟨p0, p1, p2, p3, p4⟩ := z1.all5
 have HCE := hid hce
 clear hs hl hok hb0 z1 z2 hce
 by_cases h0 : ce = 0
 case neg =>
  have tr : (ce != 0) = true := by simpa using h0
  have h1 : kAz kds L L.length ≠ 0 := by rw [← HN.out, ← HCE.out]; exact h0
  have HE : Hid (re = ce) := he.out.trans (by unfold ofE; rw [if_pos h1, ← HN.out, HCE.out])
  have HV : Hid (rv = bs0) := hv.out.trans (by unfold ofV ofE; rw [if_pos h1, if_neg h1])
  clear h0 h1
  go_enter func79, ntmps79
  go_wp2_with fail
  refine KC.out.mono ?_
  rintro e W ⟨rfl, hb⟩
  obtain ⟨⟨c0, c1, c2⟩, f0, f1, f2⟩ := (HZ2.out.t hb).a3f
  have HBW := hid (bT HB0.out hb)
  clear hb KC p0 p1 p2 p3 p4
  go_wp2_with fail
  refine bodyPost_ret (v := .tuple #[.agg #[.int .i64 0, .int .i64 0, .int .i64 0], .int .i64 ce]) (by simp [results, results79, go_sem, c0, c1, c2]) rfl ⟨by rw [HE.out, HV.out] <;> rfl, ?_⟩
  exact bS (bS (bS HBW.out (Nat.le_succ _) _) (Nat.le_succ _) _) (Nat.le_succ _) _
 subst h0
 have hch : kAz kds L L.length = 0 := by rw [← HN.out]; exact HCE.out.symm
 have HEL : Hid (∀ k, k < n → kdE kds (L.getD k el0).k = 0 ∧ elE (L.getD k el0).a (L.getD k el0).u = 0) := fun k hk => by
  have h1 := hch
  unfold kAz at h1
  by_cases h2 : 32 < L.length
  ·
   rw [if_pos h2] at h1; cases h1
  rw [if_neg h2] at h1
  have h3 := faz _ _ h1 k (by have := HN.out; omega)
  unfold chkE at h3
  by_cases h4 : kdE kds (L.getD k el0).k ≠ 0
  ·
   rw [if_pos h4] at h3; exact absurd h3 h4
  ·
   rw [if_neg h4] at h3; exact ⟨by simpa using h4, h3⟩
 have hof : ofE kds L = sumBE (ofF kds L) n := by unfold ofE; rw [if_neg (fun h => h hch), HN.out]
 have HEE : Hid (re = sumBE (ofF kds L) n) := he.out.trans hof
 have HVV : Hid (rv = if sumBE (ofF kds L) n = 0 then sumB (ofF kds L) n else bs0) := hv.out.trans (by unfold ofV; rw [hof, HN.out])
 clear hof
 have HST : Hid (∀ k, k < n → fz9 (fun k => bEz Ao9 (sumB (ofF kds L) k) (ofF kds L k)) k = 0 → bEz Ao9 (sumB (ofF kds L) k) (ofF kds L k) ≠ 0 → re = 10 ∧ rv = bs0) := fun k hk h0 h1 => by
  have e1 : sumBE (ofF kds L) n = 10 := by
   unfold sumBE
   rw [fS9 (fun k => bEz Ao9 (sumB (ofF kds L) k) (ofF kds L k)) k _ h0 h1 hk]
   exact bothE_ten h1
  exact ⟨HEE.out.trans e1, HVV.out.trans (by rw [if_neg (by rw [e1]; decide)])⟩
 clear hch
 go_enter func79, ntmps79
 go_wp2_with fail
 refine KC.out.mono ?_
 rintro e w1 ⟨rfl, hb⟩
 have HB1 := hid (bA (bT HB0.out hb) (.cells #[.int .i64 0, .int .i64 0, .int .i64 0] 41))
 have HX1 := hid ((HZ1.out.t hb).alloc (.cells #[.int .i64 0, .int .i64 0, .int .i64 0] 41))
 have HX2 := hid ((HZ2.out.t hb).alloc (.cells #[.int .i64 0, .int .i64 0, .int .i64 0] 41))
 have HX3 := hid (Blk.mk w1 41 #[.int .i64 0, .int .i64 0, .int .i64 0])
 have hw1 := (HZ2.out.t hb).lt
 clear hb KC p0 p1 p2 p3 p4
 go_wp2_with fail
 go_loopw [23, 9, 10, 11, 12, 13] (fun i _ _ _ _ _ wr => ∃ (k : Nat) (b : Bs), k ≤ n ∧ i = .int .i64 k ∧ Hid (b = sumB (ofF kds L) k ∧ fz9 (fun k => bEz Ao9 (sumB (ofF kds L) k) (ofF kds L k)) k = 0) ∧ Hid (Below w.heap.size w wr) ∧ Hid (Blk wr w.heap.size 26 #[.slice As ns cs, .slice Ac nc cc, .slice Ak nk ck, .int .i64 lim, .int .i64 rnd]) ∧ Hid (Blk wr (w.heap.size + 1) 41 #[.int .i64 0, .int .i64 0, .int .i64 0]) ∧ Hid (Blk wr w1.heap.size 41 (bsC b))) (fun i _ _ _ _ _ _ => n - (intOf i).toNat)
 case atStart => exact ⟨0, bs0, Nat.zero_le _, rfl, ⟨rfl, rfl⟩, HB1, HX1, HX2, HX3⟩
 case round =>
  clear HB1 HX1 HX2 HX3
  obtain ⟨k, b, hk', rfl, HSK, HB, HX1, HX2, HX3⟩ := hrel
  have hlt := HX3.out.lt
  by_cases hk : k < n
  case neg =>
   obtain rfl : n = k := by omega
   have HE : Hid (re = 0) := HEE.out.trans HSK.out.2
   have HV : Hid (rv = b) := HVV.out.trans (by rw [if_pos (show sumBE (ofF kds L) n = 0 from HSK.out.2)]; exact HSK.out.1.symm)
   obtain ⟨b1, b2, b3⟩ := b
   have hu := HX3.out
   unfold bsC at hu
   obtain ⟨⟨u0, u1, u2⟩, _⟩ := hu.a3f
   obtain ⟨⟨c0, c1, c2⟩, f0, f1, f2⟩ := HX2.out.a3f
   clear hk hk' hu
   go_wp2_with fail
   refine bodyPost_ret (v := .tuple #[.agg #[.int .i64 b1, .int .i64 b2, .int .i64 b3], .int .i64 0]) (by simp [results, results79, go_sem, c0, c1, c2]) rfl ⟨by rw [HE.out, HV.out], ?_⟩
   exact bS (bS (bS HB.out (Nat.le_succ _) _) (Nat.le_succ _) _) (Nat.le_succ _) _
  obtain ⟨bb, off, rfl, hblt, hat⟩ := (Rlz.below HL.out HB.out).2.2 (by omega)
  have d0 := hat k hk 0 _ rfl
  have d1 := hat k hk 1 _ rfl
  have d2 := hat k hk 2 _ rfl
  simp only [Nat.add_zero] at d0
  obtain ⟨he1, he2⟩ := HEL.out k hk
  obtain ⟨kx, hkx⟩ : ∃ kx, kx = kdX kds (L.getD k el0).k := ⟨_, rfl⟩
  obtain ⟨ev, hev⟩ : ∃ ev, ev = elV (L.getD k el0).a (L.getD k el0).u := ⟨_, rfl⟩
  have hkr := kd_range HOK.out (L.getD k el0).k
  rw [← hkx] at hkr
  have hvb := elV_bd (L.getD k el0).a (L.getD k el0).u
  rw [← hev] at hvb
  have KK := hid (fun W hW => kind_c kds As Ac Ak ns cs nc cc nk ck lim rnd (L.getD k el0).k W (HS.out.below hW) kx 0 hkx (by unfold Hid; exact he1.symm))
  have KV := hid (fun W => evalue_c (L.getD k el0).k (L.getD k el0).a (L.getD k el0).u W ev 0 hev (by unfold Hid; exact he2.symm))
  have hfo : ofF kds L k = ⟨ev * kx.c, ev * kx.t, ev * kx.s⟩ := by unfold ofF elB; rw [← hkx, ← hev]
  have m1 := mul_one_bd hvb hkr.1
  have m2 := mul_one_bd hvb hkr.2.1
  have m3 := mul_one_bd hvb hkr.2.2
  obtain ⟨r2, hr2⟩ : ∃ r2, r2 = bEz Ao9 b (ofF kds L k) := ⟨_, rfl⟩
  obtain ⟨v2, hv2⟩ : ∃ v2, v2 = bothV Ao9 b (ofF kds L k) := ⟨_, rfl⟩
  have KA := hid (fun W => bAdd_c b (ofF kds L k) W r2 v2 hr2 hv2)
  rw [hfo] at KA
  have HSX : Hid (r2 ≠ 0 → re = 10 ∧ rv = bs0 ∧ r2 = 10) := fun h => by
   have e := HST.out k hk HSK.out.2 (by rw [← HSK.out.1, ← hr2]; exact h)
   refine ⟨e.1, e.2, ?_⟩
   rw [hr2] at h ⊢
   exact bothE_ten h
  have HNX : Hid (r2 = 0 → v2 = sumB (ofF kds L) (k + 1) ∧ fz9 (fun k => bEz Ao9 (sumB (ofF kds L) k) (ofF kds L k)) (k + 1) = 0) := fun h => by
   refine ⟨?_, ft9 _ _ HSK.out.2 ?_⟩
   ·
    rw [sumB, ← HSK.out.1]; exact hv2
   ·
    rw [← HSK.out.1, ← hr2]; exact h
  have HSZ : Hid (k < L.length) := by have := HN.out; unfold Hid; omega
  clear hat hr2 hv2 hfo hkx hev he1 he2 hkr
  generalize (L.getD k el0).k = ek at *
  generalize (L.getD k el0).a = ea at *
  generalize (L.getD k el0).u = eu at *
  obtain ⟨kn, k1, k2, k3⟩ := kx
  obtain ⟨b1, b2, b3⟩ := b
  have hu := HX3.out
  unfold bsC at hu
  dsimp only at KK KA m1 m2 m3
  have HXB := hid (bA HB.out (.cells #[.string ek, .int .i64 ea, .int .i64 eu] 98))
  have HY1 := hid (HX1.out.alloc (.cells #[.string ek, .int .i64 ea, .int .i64 eu] 98))
  have HY2 := hid (HX2.out.alloc (.cells #[.string ek, .int .i64 ea, .int .i64 eu] 98))
  have HY3 := hid (hu.alloc (.cells #[.string ek, .int .i64 ea, .int .i64 eu] 98))
  have HYE := hid (Blk.mk wr 98 #[.string ek, .int .i64 ea, .int .i64 eu])
  obtain ⟨p0, p1, p2, p3, p4⟩ := HY1.out.all5
  clear hu
  go_wp2_with fail
  refine (KK.out _ HXB.out).mono ?_
  rintro e w2 ⟨rfl, hb⟩
  have HB2 := hid (bA (bT HXB.out hb) (.cells #[.string kn, .int .i64 k1, .int .i64 k2, .int .i64 k3] 148))
  have HV1 := hid ((HY1.out.t hb).alloc (.cells #[.string kn, .int .i64 k1, .int .i64 k2, .int .i64 k3] 148))
  have HV2 := hid ((HY2.out.t hb).alloc (.cells #[.string kn, .int .i64 k1, .int .i64 k2, .int .i64 k3] 148))
  have HV3 := hid ((HY3.out.t hb).alloc (.cells #[.string kn, .int .i64 k1, .int .i64 k2, .int .i64 k3] 148))
  have HVE := hid ((HYE.out.t hb).alloc (.cells #[.string kn, .int .i64 k1, .int .i64 k2, .int .i64 k3] 148))
  have HVK := hid (Blk.mk w2 148 #[.string kn, .int .i64 k1, .int .i64 k2, .int .i64 k3])
  obtain ⟨⟨v0, v1, v2'⟩, _⟩ := HVE.out.a3f
  clear hb KK p0 p1 p2 p3 p4
  go_wp2_with fail
  refine (KV.out _).mono ?_
  rintro e w3 ⟨rfl, hb⟩
  have HB3 := hid (bA (bT HB2.out hb) (.cells #[.int .i64 (ev * k1), .int .i64 (ev * k2), .int .i64 (ev * k3)] 41))
  have HT1 := hid ((HV1.out.t hb).alloc (.cells #[.int .i64 (ev * k1), .int .i64 (ev * k2), .int .i64 (ev * k3)] 41))
  have HT2 := hid ((HV2.out.t hb).alloc (.cells #[.int .i64 (ev * k1), .int .i64 (ev * k2), .int .i64 (ev * k3)] 41))
  have HT3 := hid ((HV3.out.t hb).alloc (.cells #[.int .i64 (ev * k1), .int .i64 (ev * k2), .int .i64 (ev * k3)] 41))
  obtain ⟨_, q1, q2, q3⟩ := (HVK.out.t hb).a4f.1
  obtain ⟨⟨u0, u1, u2⟩, _⟩ := HT3.out.a3f
  clear hb KV v0 v1 v2'
  go_wp2_with fail
  refine (KA.out _).mono ?_
  rintro e w4 ⟨rfl, hb⟩
  have HB4 := hid (bT HB3.out hb)
  have hyu := HT3.out.t hb
  obtain ⟨⟨u0, u1, u2⟩, g0, g1, g2⟩ := hyu.a3f
  obtain ⟨y1, y2, y3⟩ := v2
  have HZU := hid (((Blk.setJ hyu 0 (.int .i64 y1)).setJ 1 (.int .i64 y2)).setJ 2 (.int .i64 y3))
  have hn1 : w.heap.size + 1 ≠ w1.heap.size := by omega
  have hn0 : w.heap.size ≠ w1.heap.size := by omega
  have hle : w.heap.size ≤ w1.heap.size := by omega
  have HZ1 := hid (((Blk.setO (HT1.out.t hb) hn0 0 (.int .i64 y1)).setO hn0 1 (.int .i64 y2)).setO hn0 2 (.int .i64 y3))
  have HZ2 := hid (((Blk.setO (HT2.out.t hb) hn1 0 (.int .i64 y1)).setO hn1 1 (.int .i64 y2)).setO hn1 2 (.int .i64 y3))
  have HZB := hid (bS (bS (bS HB4.out (p := ⟨w1.heap.size, 0, none⟩) hle (.int .i64 y1)) (p := ⟨w1.heap.size, 1, none⟩) hle (.int .i64 y2)) (p := ⟨w1.heap.size, 2, none⟩) hle (.int .i64 y3))
  clear hb KA hyu q1 q2 q3
  by_cases h0 : r2 = 0
  ·
   have HG := hid (HNX.out h0)
   subst h0
   clear HNX HSX
   dsimp only
   go_wp2_with fail
   go_roundw
   case rel => exact ⟨k + 1, ⟨y1, y2, y3⟩, by omega, by go_num, HG, HZB, HZ1, HZ2, HZU⟩
   case measure => simp [intOf]; omega
  ·
   have tr : (r2 != 0) = true := by simpa using h0
   have HG := hid (HSX.out h0)
   obtain ⟨⟨c0, c1, c2⟩, f0, f1, f2⟩ := HZ2.out.a3f
   clear HNX HSX h0
   dsimp only
   go_wp2_with fail
   refine bodyPost_ret (v := .tuple #[.agg #[.int .i64 0, .int .i64 0, .int .i64 0], .int .i64 r2]) (by simp [results, results79, go_sem, c0, c1, c2]) rfl ⟨by rw [HG.out.1, HG.out.2.1, HG.out.2.2] <;> rfl, ?_⟩
   exact bS (bS (bS HZB.out (Nat.le_succ _) _) (Nat.le_succ _) _) (Nat.le_succ _) _
theorem splice_at {α : Type} (X Z Y : List α) (h : Y.length ≤ Z.length) : splice (X ++ Z) X.length Y = X ++ (Y ++ Z.drop Y.length) := by
 unfold splice
 rw [List.take_left, List.drop_append]
 simp
theorem SrcAt.take {w : World} {A : Option Addr} {n size : Nat} {xs : List Value} (h : SrcAt w A n size xs) {i : Nat} (hi : i ≤ n) : SrcAt w A i size (xs.take (i * size)) := by
 refine ⟨?_, fun h0 => ?_⟩
 ·
  rw [List.length_take, h.1]
  exact Nat.min_eq_left (Nat.mul_le_mul_right _ hi)
 ·
  obtain ⟨b, off, hA, hlt, hc⟩ := h.2 (by omega)
  refine ⟨b, off, hA, hlt, fun j u hu => ?_⟩
  have hj := (List.getElem?_eq_some_iff.1 hu).1
  rw [List.length_take] at hj
  rw [List.getElem?_take_of_lt (by omega)] at hu
  exact hc j u hu
theorem SrcAt.drop {w : World} {b off n size : Nat} {xs : List Value} (h : SrcAt w (some ⟨b, off, none⟩) n size xs) {i : Nat} (hi : i < n) : SrcAt w (some ⟨b, off + i * size, none⟩) (n - i) size (xs.drop (i * size)) := by
 refine ⟨by rw [List.length_drop, h.1, Nat.sub_mul], fun h0 => ?_⟩
 obtain ⟨b', off', hA, hlt, hc⟩ := h.2 (by omega)
 injection hA with hA
 injection hA with h1 h2
 subst h1; subst h2
 refine ⟨b, _, rfl, hlt, fun j u hu => ?_⟩
 rw [List.getElem?_drop] at hu
 rw [Nat.add_assoc]
 exact hc _ u hu
theorem odC_flat (l : List Od) : (l.flatMap odC).length = l.length * 7 := by
 induction l with
 | nil => rfl
 | cons x l ih => rw [List.flatMap_cons, List.length_append, ih, odC_len, List.length_cons]; omega
theorem odC_take (l : List Od) (i : Nat) (hi : i ≤ l.length) : (l.flatMap odC).take (i * 7) = (l.take i).flatMap odC := by
 have h : l.flatMap odC = (l.take i).flatMap odC ++ (l.drop i).flatMap odC := by rw [← List.flatMap_append, List.take_append_drop]
 have h2 : ((l.take i).flatMap odC).length = i * 7 := by rw [odC_flat, List.length_take, Nat.min_eq_left hi]
 rw [h, ← h2, List.take_left]
theorem odC_drop (l : List Od) (i : Nat) (hi : i ≤ l.length) : (l.flatMap odC).drop (i * 7) = (l.drop i).flatMap odC := by
 have h : l.flatMap odC = (l.take i).flatMap odC ++ (l.drop i).flatMap odC := by rw [← List.flatMap_append, List.take_append_drop]
 have h2 : ((l.take i).flatMap odC).length = i * 7 := by rw [odC_flat, List.length_take, Nat.min_eq_left hi]
 rw [h, ← h2, List.drop_left]
theorem OdSl.nil {w : World} {A : Option Addr} {n : Nat} {l : List Od} (h : OdSl w A n l) : A = none → n = 0 := fun hA => by
 rcases Nat.eq_zero_or_pos n with h0 | h0
 ·
  exact h0
 ·
  obtain ⟨b, off, h, _⟩ := h.2.2 h0
  rw [hA] at h; cases h
theorem sclip_c (A : Option Addr) (n c : Nat) (hc : n ≤ c) (h9 : n ≤ 9223372036854775807) (hA : A = none → c = 0) (w : World) : Calls prog 117 #[.slice A n c] w fun e w' => e = .returned (.slice A n n) ∧ w = w' := by
 have h1 : ¬ c < n := by omega
 cases A with
 | none =>
  obtain rfl := hA rfl
  obtain rfl : n = 0 := by omega
  go_enter func117, ntmps117
  go_wp2_with fail
  go_ret
  exact ⟨rfl, rfl⟩
 | some a =>
  clear hA
  go_enter func117, ntmps117
  go_wp2_with fail
  go_ret
  exact ⟨rfl, rfl⟩
theorem insO_at (l : List Od) (z : Od) (i : Nat) : (l.take i ++ z :: l.drop i).flatMap odC = (l.take i).flatMap odC ++ (odC z ++ (l.drop i).flatMap odC) := by
 rw [List.flatMap_append, List.flatMap_cons]
theorem sinsert_c (A : Option Addr) (n i : Nat) (l : List Od) (z : Od) (vb : Nat) (w : World) (hs : OdSl w A n l) (hi : i ≤ n) (hn : n ≤ 1000000) (hv : Blk w vb 213 (odC z).toArray) (lr : List Od) (hlr : Hid (lr = l.take i ++ z :: l.drop i)) :
  Calls prog 116 #[.slice A n n, .int .i64 i, .slice (some ⟨vb, 0, none⟩) 1 1] w (GivesOd (n + 1) lr w) := by
 have hln := hs.1
 have hzs : SrcAt w (some ⟨vb, 0, none⟩) 1 7 (odC z) := ⟨rfl, fun _ => ⟨vb, 0, rfl, hv.lt, fun j u hu => by rw [Nat.zero_add, hv.cell j]; simpa using hu⟩⟩
 have hz1 : ∀ u ∈ odC z, u.oneCell' = true := fun u hu => od_one (l := [z]) u (by simpa using hu)
 have hsrc := hs.src odC_len
 obtain ⟨i0, hi', hz', hsz', hby⟩ := info_parts info_state
 by_cases hin : i = n
 ·
  subst hin
  have hA := hs.nil
  have hh : ∀ b, A = some b → ∀ j u, (l.flatMap odC)[j]? = some u → w.cell? (b.add j) = some u := fun b hb j u hu => by
   rcases Nat.eq_zero_or_pos i with h0 | h0
   ·
    have : l.flatMap odC = [] := List.eq_nil_of_length_eq_zero (by rw [odC_flat, ← hln, h0])
    rw [this] at hu; simp at hu
   ·
    obtain ⟨a, ha, hc⟩ := hsrc.load h0
    rw [hb] at ha; injection ha with ha; subst ha
    exact hc j u hu
  have hzc : ∀ j u, (odC z)[j]? = some u → w.cell? ((⟨vb, 0, none⟩ : Addr).add j) = some u := fun j u hu => by
   rw [add_plain, Nat.zero_add, hv.cell j]; simpa using hu
  have HH := hid hh
  have HZ := hid hzc
  have HLN : Hid (i = l.length) := hln
  have HA : Hid (A = none → i = 0 ∧ i = 0) := fun h => ⟨hA h, hA h⟩
  have HLL : Hid ((l.flatMap odC).length = i * 7) := by unfold Hid; rw [odC_flat, ← hln]
  have HE : Hid (lr = l ++ [z]) := by unfold Hid; rw [hlr.out, hln, List.take_length, List.drop_length]
  have HI := hid hi'
  have HZ1 := hid hz1
  have HZZ := hid hz'
  have HS7 := hid hsz'
  have HB7 := hid hby
  clear hh hzc hln hA hzs hsrc hs hv hi' hz1 hz' hsz' hby
  cases hAA : A with
  | none =>
   subst hAA
   obtain ⟨rfl, _⟩ := HA.out rfl
   go_enter func116, ntmps116
   go_wp2_with (at_builtin; refine wpList_append_grows _ rfl _ _ 141 rfl 213 i0 _ 7 56 underlying141 HI.out HZZ.out HS7.out HB7.out rfl (by decide) _ _ _ (l.flatMap odC) rfl (fun _ => ⟨rfl, rfl⟩) HLL.out HH.out ⟨vb, 0, none⟩ 1 1 (odC z) rfl rfl HZ.out HZ1.out (by omega) (by unfold maxLen; omega) (by omega) ?_; intro v' w' ho hg)
   go_ret
   rw [HE.out]
   exact ⟨⟨_, rfl, by rw [List.length_append, ← HLN.out]; rfl, by simpa [List.flatMap_append] using ho⟩, below_grown (b0 _) hg (Nat.le_refl _) (by simp)⟩
  | some a =>
   subst hAA
   have vi : ¬ (i < i) := by omega
   go_enter func116, ntmps116
   go_wp2_with (at_builtin; refine wpList_append_grows _ rfl _ _ 141 rfl 213 i0 _ 7 56 underlying141 HI.out HZZ.out HS7.out HB7.out rfl (by decide) _ _ _ (l.flatMap odC) rfl HA.out HLL.out HH.out ⟨vb, 0, none⟩ 1 1 (odC z) rfl rfl HZ.out HZ1.out (by omega) (by unfold maxLen; omega) (by omega) ?_; intro v' w' ho hg)
   go_ret
   rw [HE.out]
   exact ⟨⟨_, rfl, by rw [List.length_append, ← HLN.out]; rfl, by simpa [List.flatMap_append] using ho⟩, below_grown (b0 _) hg (Nat.le_refl _) (by simp)⟩
 have hil : i < n := by omega
 obtain ⟨b, off, rfl, hltb, _⟩ := hs.2.2 (by omega)
 obtain ⟨k, hk⟩ : ∃ k, k = n + 1 - i := ⟨_, rfl⟩
 have hki : (k : Int) = (n : Int) + 1 - (i : Int) := by omega
 obtain ⟨v1, w1, hr1, ho1, hg1⟩ := run_appZ_own (P := prog) w 141 3 141 213 _ 7 56 .i64 .i64 underlying141 underlying3 info_state rfl (by decide) (some ⟨b, off, none⟩) i n ((l.flatMap odC).take (i * 7)) (hsrc.take hi) k (by omega) (by omega) (by omega) (by omega)
 rw [hki] at hr1
 obtain ⟨g1, cap1, rfl, hb1, hlt1, hcap1, ho1'⟩ := own_form ho1 (by omega)
 have hik : i + k = n + 1 := by omega
 rw [hik] at hr1 ho1 ho1' hcap1
 have hbl1 : Below w.heap.size w w1 := below_grown (b0 _) hg1 (Nat.le_refl _) (by simp)
 have hzs1 := hzs.below hbl1
 have hX : ((l.flatMap odC).take (i * 7)).length = i * 7 := by rw [List.length_take, odC_flat, ← hln]; omega
 obtain ⟨Z, hZ⟩ : ∃ Z, Z = (Builtin.zeroCells (Value.agg #[.int .i64 0, .int .i64 0, .int .i64 0, .int .i64 0, .int .i64 0, .int .i64 0, .int .i64 0]).cells k).toList := ⟨_, rfl⟩
 have hZl : Z.length = k * 7 := by rw [hZ, Array.length_toList, size_zeroCells]; rfl
 rw [← hZ] at ho1'
 obtain ⟨w2, hr2, ho2, hg2⟩ := run_copy_ownK (P := prog) w1 141 141 3 213 underlying141 (by rw [hi']; exact congrArg some hsz') (by decide) ho1' (i * 7) (n + 1 - i) (cap1 - i) (some ⟨vb, 0, none⟩) 1 1 (odC z) hzs1 hz1 (by omega) (by rw [odC_len]; omega)
 have hbl2 : Below w.heap.size w w2 := below_grown hbl1 hg2 hbl1.size (fun q hq => by injection hq with hq; omega)
 have hsp := splice_at ((l.flatMap odC).take (i * 7)) Z (odC z) (by rw [odC_len, hZl]; omega)
 rw [hX] at hsp
 rw [hsp] at ho2
 have hdr := (hsrc.drop hil).below hbl2
 have ho2d : w2.drew.ownsRow w.heap.size 213 7 (.slice (some ⟨g1, 0, none⟩) (n + 1) cap1) (n + 1) ((l.flatMap odC).take (i * 7) ++ (odC z ++ Z.drop (odC z).length)) := ho2
 obtain ⟨w3, hr3, ho3, hg3⟩ := run_copy_ownK (P := prog) w2.drew 141 141 3 213 underlying141 (by rw [hi']; exact congrArg some hsz') (by decide) ho2d ((i + 1) * 7) (n - i) (cap1 - (i + 1)) (some ⟨b, off + i * 7, none⟩) (n - i) (n - i) ((l.flatMap odC).drop (i * 7)) hdr (fun u hu => od_one u (List.mem_of_mem_drop hu)) (by omega) (by rw [List.length_drop, odC_flat, ← hln]; omega)
 have hbl3 : Below w.heap.size w w3 := below_grown (bD hbl2 1) hg3 hbl2.size (fun q hq => by injection hq with hq; omega)
 have hsp2 := splice_at ((l.flatMap odC).take (i * 7) ++ odC z) (Z.drop (odC z).length) ((l.flatMap odC).drop (i * 7)) (by rw [List.length_drop, List.length_drop, odC_flat, ← hln, hZl, odC_len]; omega)
 have hX2 : ((l.flatMap odC).take (i * 7) ++ odC z).length = (i + 1) * 7 := by rw [List.length_append, hX, odC_len]; omega
 have hnil : (Z.drop (odC z).length).drop ((l.flatMap odC).drop (i * 7)).length = [] := List.drop_eq_nil_of_le (by rw [List.length_drop, List.length_drop, odC_flat, ← hln, hZl, odC_len]; omega)
 rw [hX2, hnil, List.append_nil, List.append_assoc, List.append_assoc] at hsp2
 rw [hsp2, odC_take l i (by omega), odC_drop l i (by omega), ← insO_at, ← hlr.out] at ho3
 have HO3 := hid ho3
 have HB3 := hid hbl3
 have HR1 := hid hr1
 have HR2 := hid hr2
 have HR3 := hid hr3
 have HLN : Hid (n + 1 = lr.length) := by unfold Hid; rw [hlr.out, List.length_append, List.length_cons, List.length_take, List.length_drop]; omega
 have vin : ((i : Int) == (n : Int)) = false := by simp; omega
 have e1 : ¬ n = i := by omega
 have e2 : ¬ cap1 = i := by omega
 have e3 : ¬ cap1 = i + 1 := by omega
 have e4 : (i : Int) ≤ (n : Int) := by omega
 clear hs hsrc hzs hz1 hln hv ho1 ho1' ho2 ho2d ho3 hsp hsp2 hX hX2 hnil hZ hZl hdr hzs1 hr1 hr2 hr3 hg1 hg2 hg3 hbl1 hbl2 hbl3 hk hki hik hi' hz' hsz' hby hin
 go_enter func116, ntmps116
 go_wp2_with (first | (at_builtin; refine wpList_appR _ rfl _ _ 141 3 rfl _ _ rfl rfl _ w1 HR1.out ?_) | (refine wpList_copyR _ rfl _ _ 141 141 rfl _ _ rfl rfl _ w2 HR2.out ?_))
 have hw1 : IntKind.i64.wrap ((i : Int) + 1) = (i : Int) + 1 := IntWalk.i64_in _ (by omega)
 have hw2 : (0 : Int) ≤ (i : Int) + 1 := by omega
 have hw3 : ((i : Int) + 1).toNat = i + 1 := by omega
 have hw4 : (i : Int) + 1 ≤ (n : Int) + 1 := by omega
 go_region_law (refine step_copyR rfl _ _ 141 141 rfl _ _ (by simp [Act.eval, Act.put]) (by simp [Act.eval, Act.put]) _ w3 HR3.out ?_)
 clear hw1 hw2 hw3 hw4
 go_wp2_with fail
 go_ret
 exact ⟨⟨_, rfl, HLN.out, HO3.out⟩, HB3.out⟩
theorem sgrow_c (n : Nat) (w : World) (hn : n ≤ 1000000) : Calls prog 156 #[.slice none 0 0, .int .i64 n] w (GivesOd 0 [] w) := by
 by_cases h0 : n = 0
 ·
  subst h0
  go_enter func156, ntmps156
  go_wp2_with fail
  go_ret
  exact ⟨⟨_, rfl, rfl, World.ownsRow_nil _ _ _ _⟩, b0 _⟩
 ·
  obtain ⟨v1, w1, hr1, ho1, hg1⟩ := run_appZ_own (P := prog) w 141 3 141 213 _ 7 56 .i64 .i64 underlying141 underlying3 info_state rfl (by decide) none 0 0 [] ⟨rfl, fun h => absurd h (by omega)⟩ n (by omega) (by omega) (by omega) (by omega)
  obtain ⟨g1, cap1, rfl, hb1, hlt1, hcap1, ho1'⟩ := own_form ho1 (by omega)
  have HR1 := hid hr1
  have HB1 : Hid (Below w.heap.size w w1) := below_grown (b0 _) hg1 (Nat.le_refl _) (by simp)
  have HO1 : Hid (w1.ownsRow w.heap.size 213 7 (.slice (some ⟨g1, 0, none⟩) 0 cap1) 0 []) := by
   rw [Nat.zero_add] at ho1'
   obtain ⟨_, h2 | ⟨g', cap', cur, hv, hb, hg, hle2, hm, hsz, ht⟩⟩ := ho1'
   ·
    cases h2.1
   ·
    injection hv with hA _ hc
    injection hA with hA
    injection hA with hg' _
    subst hg'; subst hc
    exact ⟨rfl, .inr ⟨g1, cap1, cur, rfl, hb, hg, Nat.zero_le _, hm, hsz, by simp⟩⟩
  have v : decide ((0 : Int) < (n : Int)) = true := by simp; omega
  clear ho1 ho1' hr1 hg1
  go_enter func156, ntmps156
  go_wp2_with (at_builtin; refine wpList_appR _ rfl _ _ 141 3 rfl _ _ rfl rfl _ w1 HR1.out ?_)
  go_ret
  exact ⟨⟨_, rfl, rfl, HO1.out⟩, HB1.out⟩
theorem sconcat_c (h : Nat) (A1 A2 : Option Addr) (n1 c1 n2 c2 : Nat) (l1 l2 : List Od) (w : World) (hh : Blk w h 141 #[.slice A1 n1 c1, .slice A2 n2 c2]) (hs1 : SrcAt w A1 n1 7 (l1.flatMap odC)) (hs2 : SrcAt w A2 n2 7 (l2.flatMap odC))
  (e1 : n1 = l1.length) (e2 : n2 = l2.length) (hn : n1 + n2 ≤ 1000000) (lr : List Od) (hlr : Hid (lr = l1 ++ l2)) :
  Calls prog 120 #[.slice (some ⟨h, 0, none⟩) 2 2] w (GivesOd (n1 + n2) lr w) := by
 have HS1 := hid hs1
 have HS2 := hid hs2
 have HH := hid hh
 have HE : Hid (n1 + n2 = lr.length ∧ lr.flatMap odC = l1.flatMap odC ++ l2.flatMap odC) := by unfold Hid; rw [hlr.out, List.length_append, List.flatMap_append]; exact ⟨by omega, rfl⟩
 obtain ⟨d0, d1⟩ : w.cell? ⟨h, 0, none⟩ = some (.slice A1 n1 c1) ∧ w.cell? ⟨h, 1, none⟩ = some (.slice A2 n2 c2) := ⟨hh.cell 0, hh.cell 1⟩
 have KG := hid (fun W => sgrow_c (n1 + n2) W hn)
 clear hs1 hs2 hh e1 e2
 go_enter func120, ntmps120
 go_wp2_with fail
 go_loop [3, 11] (fun z i => (i = .int .i64 0 ∧ z = .int .i64 0) ∨ (i = .int .i64 1 ∧ z = .int .i64 n1) ∨ (i = .int .i64 2 ∧ z = .int .i64 (n1 + n2 : Nat))) (fun _ i => 2 - (intOf i).toNat)
 case atStart => exact Or.inl ⟨rfl, rfl⟩
 case round =>
  rcases hrel with ⟨rfl, rfl⟩ | ⟨rfl, rfl⟩ | ⟨rfl, rfl⟩
  ·
   have v : ¬ ((n1 : Int) < 0) := by omega
   go_wp2_with fail
   go_round
   case rel => exact Or.inr (Or.inl ⟨rfl, rfl⟩)
   case measure => simp [intOf]
  ·
   have v : ¬ ((n1 : Int) + (n2 : Int) < 0) := by omega
   go_wp2_with fail
   go_round
   case rel => exact Or.inr (Or.inr ⟨rfl, by go_num⟩)
   case measure => simp [intOf]
  ·
   clear d0 d1
   go_wp2_with fail
   refine (KG.out _).mono ?_
   rintro e w1 ⟨⟨v1, rfl, ho1⟩, hb1⟩
   have HO1 := hid ho1.2
   clear ho1
   go_wp2_with fail
   go_loopw [6, 27] (fun v i wr => ((i = .int .i64 0 ∧ wr.ownsRow w.heap.size 213 7 v 0 []) ∨ (i = .int .i64 1 ∧ wr.ownsRow w.heap.size 213 7 v n1 (l1.flatMap odC)) ∨ (i = .int .i64 2 ∧ wr.ownsRow w.heap.size 213 7 v (n1 + n2) (l1.flatMap odC ++ l2.flatMap odC))) ∧ Below w.heap.size w wr) (fun _ i _ => 2 - (intOf i).toNat)
   case atStart => exact ⟨Or.inl ⟨rfl, HO1.out⟩, hb1⟩
   case round =>
    obtain ⟨⟨rfl, ho⟩ | ⟨rfl, ho⟩ | ⟨rfl, ho⟩, hbl⟩ := hrel
    ·
     have HO := hid ho
     have hsz := hbl.size
     have hhh := HH.out.t hbl
     obtain ⟨d0, d1⟩ : wr.cell? ⟨h, 0, none⟩ = some (.slice A1 n1 c1) ∧ wr.cell? ⟨h, 1, none⟩ = some (.slice A2 n2 c2) := ⟨hhh.cell 0, hhh.cell 1⟩
     have HSR := hid (HS1.out.below hbl)
     clear ho hhh
     go_wp2_with (at_builtin; refine wn9 _ rfl _ _ 141 rfl 213 _ 7 56 underlying141 info_state rfl (by decide) rfl HO.out _ _ _ _ rfl HSR.out od_one (by omega) (by omega) (by omega) ?_; intro v' w6 ho' hg)
     go_roundw
     case rel => exact ⟨Or.inr (Or.inl ⟨rfl, by simpa using ho'⟩), below_app hbl HO.out hg hsz (Nat.le_refl _)⟩
     case measure => simp [intOf]
    ·
     have HO := hid ho
     have hsz := hbl.size
     have hhh := HH.out.t hbl
     obtain ⟨d0, d1⟩ : wr.cell? ⟨h, 0, none⟩ = some (.slice A1 n1 c1) ∧ wr.cell? ⟨h, 1, none⟩ = some (.slice A2 n2 c2) := ⟨hhh.cell 0, hhh.cell 1⟩
     have HSR := hid (HS2.out.below hbl)
     clear ho hhh
     go_wp2_with (at_builtin; refine wn9 _ rfl _ _ 141 rfl 213 _ 7 56 underlying141 info_state rfl (by decide) rfl HO.out _ _ _ _ rfl HSR.out od_one (by omega) (by omega) (by omega) ?_; intro v' w6 ho' hg)
     go_roundw
     case rel => exact ⟨Or.inr (Or.inr ⟨rfl, ho'⟩), below_app hbl HO.out hg hsz (Nat.le_refl _)⟩
     case measure => simp [intOf]
    ·
     have HO := hid ho
     clear ho
     go_wp2_with fail
     go_ret
     exact ⟨⟨_, rfl, HE.out.1, by rw [HE.out.2]; exact HO.out⟩, hbl⟩
section
variable {w w' : World} {base : Nat} {sch : List (List Bd)} {cts : List Ct} {kds : List Kd} {As Ac Ak : Option Addr} {ns cs nc cc nk ck : Nat}
theorem OwnT.len (h : OwnT w base sch cts kds As Ac Ak ns cs nc cc nk ck) : ns = sch.length ∧ nc = cts.length ∧ nk = kds.length := by
 obtain ⟨⟨ls, e1, o1, _⟩, ⟨lc, e2, o2, _⟩, o3, _⟩ := h
 have f1 : ∀ l : List ScP, (l.flatMap scPC).length = l.length * 1 := fun l => by
  induction l with
  | nil => rfl
  | cons x l ih => rw [List.flatMap_cons, List.length_append, ih, scPC_len, List.length_cons]; omega
 have f2 : ∀ l : List CtP, (l.flatMap ctPC).length = l.length * 6 := fun l => by
  induction l with
  | nil => rfl
  | cons x l ih => rw [List.flatMap_cons, List.length_append, ih, ctPC_len, List.length_cons]; omega
 have f3 : ∀ l : List Kd, (l.flatMap kdC).length = l.length * 4 := fun l => by
  induction l with
  | nil => rfl
  | cons x l ih => rw [List.flatMap_cons, List.length_append, ih, kdC_len, List.length_cons]; omega
 have g1 := o1.1
 have g2 := o2.1
 have g3 := o3.1
 rw [f1] at g1
 rw [f2] at g2
 rw [f3] at g3
 refine ⟨?_, ?_, by omega⟩
 ·
  rw [← e1, List.length_map]; omega
 ·
  rw [← e2, List.length_map]; omega
theorem OwnT.below (h : OwnT w base sch cts kds As Ac Ak ns cs nc cc nk ck) (hb : Below w.heap.size w w') : OwnT w' base sch cts kds As Ac Ak ns cs nc cc nk ck := by
 obtain ⟨⟨ls, e1, o1, b1⟩, ⟨lc, e2, o2, b2⟩, o3, b3⟩ := h
 exact ⟨⟨ls, e1, oB9 o1 hb, fun p hp => (b1 p hp).below hb⟩, ⟨lc, e2, oB9 o2 hb, fun p hp => ⟨(b2 p hp).1.below hb, (b2 p hp).2⟩⟩, oB9 o3 hb, b3⟩
theorem OwnT.setO (h : OwnT w base sch cts kds As Ac Ak ns cs nc cc nk ck) {g : Nat} {xs : Array Value} (hk : Blk w g 26 xs) (j : Nat) (u : Value) : OwnT (w.setCell ⟨g, j, none⟩ u) base sch cts kds As Ac Ak ns cs nc cc nk ck := by
 obtain ⟨⟨ls, e1, o1, b1⟩, ⟨lc, e2, o2, b2⟩, o3, b3⟩ := h
 exact ⟨⟨ls, e1, oS9 o1 hk (by decide) j u, fun p hp => (b1 p hp).setO hk (by decide) j u⟩, ⟨lc, e2, oS9 o2 hk (by decide) j u, fun p hp => ⟨(b2 p hp).1.setO hk (by decide) j u, (b2 p hp).2⟩⟩, oS9 o3 hk (by decide) j u, b3⟩
theorem OwnB.band {l : List Bd} {A : Option Addr} {n c : Nat} (h : OwnB w base (.slice A n c) n l) : Blz w A n l := by
 obtain ⟨A', c', he, _, hs⟩ := h.sl
 injection he with h1 _ _
 subst h1
 exact hs
theorem OwnT.view (h : OwnT w base sch cts kds As Ac Ak ns cs nc cc nk ck) : TbIn w sch cts kds As Ac Ak ns cs nc cc nk ck := by
 obtain ⟨n1, n2, n3⟩ := h.len
 obtain ⟨⟨ls, e1, o1, b1⟩, ⟨lc, e2, o2, b2⟩, o3, b3⟩ := h
 obtain ⟨A1, c1, he1, hc1, hs1⟩ := own_sl scPC 1 scp0 scPC_len o1 (by rw [n1, ← e1, List.length_map]) (by decide)
 obtain ⟨A2, c2, he2, hc2, hs2⟩ := own_sl ctPC 6 ctp0 ctPC_len o2 (by rw [n2, ← e2, List.length_map]) (by decide)
 obtain ⟨A3, c3, he3, hc3, hs3⟩ := own_sl kdC 4 kd0 kdC_len o3 n3 (by decide)
 injection he1 with x1 _ x2
 injection he2 with y1 _ y2
 injection he3 with z1 _ z2
 subst x1; subst x2; subst y1; subst y2; subst z1; subst z2
 refine ⟨?_, ?_, rows_kd hs3 b3, hc1, hc2, hc3⟩
 ·
  rw [← e1]; exact rows_sc hs1 (fun p hp => (b1 p hp).band)
 ·
  rw [← e2]; exact rows_ct hs2 (fun p hp => ⟨(b2 p hp).1.band, (b2 p hp).2⟩)
theorem OwnT.lower (h : OwnT w base sch cts kds As Ac Ak ns cs nc cc nk ck) {base' : Nat} (hb : base' ≤ base) : OwnT w base' sch cts kds As Ac Ak ns cs nc cc nk ck := by
 obtain ⟨⟨ls, e1, o1, b1⟩, ⟨lc, e2, o2, b2⟩, o3, b3⟩ := h
 exact ⟨⟨ls, e1, oM9 o1 hb, fun p hp => ⟨(b1 p hp).1, oM9 (b1 p hp).2 hb⟩⟩, ⟨lc, e2, oM9 o2 hb, fun p hp => ⟨⟨(b2 p hp).1.1, oM9 (b2 p hp).1.2 hb⟩, (b2 p hp).2⟩⟩, oM9 o3 hb, b3⟩
end
end Go.Proofs.YtiaabmhjkoohmaaGreat
