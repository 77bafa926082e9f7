/-
  Contracts of functions that the claim reaches, and the plain laws behind them. Conditions as named in each.
-/
import Derived.Test.YtiaabmhjkoohmaaGreatEmB
import Derived.Test.YtiaabmhjkoohmaaGreatSoc4
import Derived.Test.YtiaabmhjkoohmaaGreatTabX2
import Derived.Test.YtiaabmhjkoohmaaGreatBook5
import Derived.BigRegion
import Derived.Laws.CopyRow
namespace Go.Proofs.YtiaabmhjkoohmaaGreat
set_option maxRecDepth 100000
set_option maxHeartbeats 25600000
set_option linter.unusedVariables false
set_option linter.unusedSimpArgs false
open Go.RowKit
open Ieee
theorem neg_rep {x : Nat} {a : Int} (h : Rep x a) : Rep (Op.negFloat .f64 x) (-a) := by
 have h1 : Op.negFloat .f64 x = x ^^^ 2 ^ 63 := rfl
 have e : double.read (Op.negFloat .f64 x) = (double.read x).opposite := by
  rw [h1]
  have hm : (x ^^^ 2 ^ 63) % 2 ^ 63 = x % 2 ^ 63 := by rw [Nat.xor_mod_two_pow]; simp
  have hd : (x ^^^ 2 ^ 63) / 2 ^ 63 % 2 = 1 - x / 2 ^ 63 % 2 := by
   rw [Nat.xor_div_two_pow]
   have : (2 ^ 63 / 2 ^ 63 : Nat) = 1 := by decide
   rw [this]
   have h3 : (x / 2 ^ 63 ^^^ 1) % 2 = ((x / 2 ^ 63) % 2 ^^^ 1) := by
    have := Nat.xor_mod_two_pow (a := x / 2 ^ 63) (b := 1) (n := 1)
    simpa using this
   rw [h3]
   rcases Nat.mod_two_eq_zero_or_one (x / 2 ^ 63) with h4 | h4 <;> rw [h4] <;> rfl
  have hs : double.signWeight = 2 ^ 63 := by decide
  unfold Format.read
  simp only [hs, hm, hd]
  have hb : (1 - x / 2 ^ 63 % 2 == 1) = !(x / 2 ^ 63 % 2 == 1) := by
   rcases Nat.mod_two_eq_zero_or_one (x / 2 ^ 63) with h4 | h4 <;> rw [h4] <;> rfl
  rw [hb]
  by_cases h5 : x % 2 ^ 63 < double.binade
  ·
   rw [if_pos h5, if_pos h5]; rfl
  rw [if_neg h5, if_neg h5]
  by_cases h6 : x % 2 ^ 63 < double.infRung
  ·
   rw [if_pos h6, if_pos h6]; rfl
  rw [if_neg h6, if_neg h6]
  by_cases h7 : x % 2 ^ 63 = double.infRung
  ·
   rw [if_pos h7, if_pos h7]; rfl
  ·
   rw [if_neg h7, if_neg h7]; rfl
 unfold Rep
 rw [e]
 exact opp_rep h
def PairV (a b : Int) (W : World) (x : Ending) (w' : World) : Prop := (∃ u v, x = .returned (.tuple #[.complex .f64 u v, .int .i64 0]) ∧ Rep u a ∧ Rep v b) ∧ W = w'
theorem padd2_c (b off c : Nat) (X Y : Nat → Nat) (f g S T : Nat → Int) (hX : ∀ k, k < 2 → Rep (X k) (f k) ∧ Rep (Y k) (g k) ∧ in53 (f k) = true ∧ in53 (g k) = true) (hS : ∀ k, k < 2 → S (k + 1) = S k + f k ∧ T (k + 1) = T k + g k ∧ in53 (S (k + 1)) = true ∧ in53 (T (k + 1)) = true) (h0 : S 0 = 0 ∧ T 0 = 0) (w : World) (hb : b < w.heap.size) (hc : ∀ k, k < 2 → w.cell? ⟨b, off + k, none⟩ = some (.complex .f64 (X k) (Y k))) :
  Calls Tryz.prog 184 #[.slice (some ⟨b, off, none⟩) 2 c] w (PairV (S 2) (T 2) w) := by
 have HS := Lib.hid hS
 have HX := Lib.hid hX
 have HC := Lib.hid hc
 have H0 := Lib.hid h0
 clear hS hX hc h0
 go_enter Tryz.func184, Tryz.ntmps184
 go_wp2_with fail
 go_loopw [9, 4, 6] (fun i s _ wr => wr = w ∧ ∃ (k u v : Nat), k ≤ 2 ∧ i = .int .i64 k ∧ s = .complex .f64 u v ∧ Hid (Rep u (S k) ∧ Rep v (T k))) (fun i _ _ _ => 2 - (intOf i).toNat)
 case atStart => exact ⟨rfl, 0, 0, 0, by omega, rfl, rfl, by rw [H0.out.1]; exact rep_zero, by rw [H0.out.2]; exact rep_zero⟩
 case round =>
  obtain ⟨rfl, k, u, v, hk', rfl, rfl, HR⟩ := hrel
  by_cases hk : k < 2
  case neg =>
   obtain rfl : k = 2 := by omega
   clear hk hk'
   go_wp2_with fail
   refine bodyPost_ret (v := .tuple #[.complex .f64 u v, .int .i64 0]) (by simp [results, Tryz.results184, go_sem]) rfl ⟨⟨u, v, rfl, HR.out.1, HR.out.2⟩, rfl⟩
  have d0 := HC.out k hk
  obtain ⟨x1, x2, x3, x4⟩ := HX.out k hk
  obtain ⟨s1, s2, s3, s4⟩ := HS.out k hk
  rw [s1] at s3
  rw [s2] at s4
  obtain ⟨u', v', q, hu, hv⟩ := cadd_rep HR.out.1 HR.out.2 x1 x2 s3 s4
  have g2 := fun w => run_complex_sum (P := Tryz.prog) w .add (Or.inl rfl) 267 .f64 _ _ _ _ _ _ q
  clear q
  rw [← s1] at hu s3
  rw [← s2] at hv s4
  have HQ : Hid (Rep u' (S (k + 1)) ∧ Rep v' (T (k + 1))) := ⟨hu, hv⟩
  have K1 := Lib.hid (fun W => pright_c (X k) (Y k) (f k) (g k) x1 x2 x3 x4 W)
  have K2 := Lib.hid (fun W => pright_c u' v' _ _ hu hv s3 s4 W)
  clear x1 x2 x3 x4 s1 s2 s3 s4 hu hv
  go_wp2_with fail
  refine (K1.out _).mono ?_
  rintro e W ⟨rfl, rfl⟩
  go_wp2_with fail
  refine (K2.out _).mono ?_
  rintro e W ⟨rfl, rfl⟩
  go_wp2_with fail
  go_roundw
  case rel => exact ⟨by trivial, k + 1, u', v', by omega, by go_num, rfl, HQ⟩
  case measure => simp [intOf]; omega
theorem in53_small {a : Int} (h : -200000000000 ≤ a ∧ a ≤ 200000000000) : in53 a = true := i53.2 (by omega)
theorem psub_c (x y z t : Nat) (a b c d : Int) (hx : Rep x a) (hy : Rep y b) (hz : Rep z c) (ht : Rep t d) (ha : mrB a = true) (hb : mrB b = true) (hc : mrB c = true) (hd : mrB d = true) (w : World) :
  Calls Tryz.prog 163 #[.complex .f64 x y, .complex .f64 z t] w fun e w' => (∃ u v, e = .returned (.tuple #[.complex .f64 u v, .int .i64 0]) ∧ Rep u (a - c) ∧ Rep v (b - d)) ∧ Below w.heap.size w w' := by
 have ha' := mr_iff.1 ha
 have hb' := mr_iff.1 hb
 have hc' := mr_iff.1 hc
 have hd' := mr_iff.1 hd
 have K := Lib.hid (fun W hW hC => padd2_c w.heap.size 0 2 (fun k => if k = 0 then x else Op.negFloat .f64 z) (fun k => if k = 0 then y else Op.negFloat .f64 t) (fun k => if k = 0 then a else -c) (fun k => if k = 0 then b else -d) (fun k => if k = 0 then 0 else if k = 1 then a else a - c) (fun k => if k = 0 then 0 else if k = 1 then b else b - d) (fun k hk => by
  rcases (by omega : k = 0 ∨ k = 1) with rfl | rfl
  ·
   exact ⟨hx, hy, in53_small (by simp; omega), in53_small (by simp; omega)⟩
  ·
   exact ⟨neg_rep hz, neg_rep ht, in53_small (by simp; omega), in53_small (by simp; omega)⟩) (fun k hk => by
  rcases (by omega : k = 0 ∨ k = 1) with rfl | rfl
  ·
   exact ⟨by simp, by simp, in53_small (by simp; omega), in53_small (by simp; omega)⟩
  ·
   exact ⟨by simp; omega, by simp; omega, in53_small (by simp; omega), in53_small (by simp; omega)⟩) ⟨rfl, rfl⟩ W hW hC)
 clear ha hb hc hd ha' hb' hc' hd' hx hy hz ht
 have gn : ∀ w, (Op.unary .neg (.complex .f64 z t)).run Tryz.prog w = .ok (.complex .f64 (Op.negFloat .f64 z) (Op.negFloat .f64 t)) w := fun w => rfl
 go_enter Tryz.func163, Tryz.ntmps163
 go_wp2_with fail
 refine Calls.mono (K.out _ ?_ ?_) ?_
 ·
  simp
 ·
  intro k hk
  rcases (by omega : k = 0 ∨ k = 1) with rfl | rfl <;> simp [go_sem]
 rintro e W ⟨⟨u, v, rfl, hu, hv⟩, rfl⟩
 go_wp2_with fail
 refine bodyPost_ret (v := .tuple #[.complex .f64 u v, .int .i64 0]) (by simp [results, Tryz.results163, go_sem]) rfl ⟨⟨u, v, rfl, hu, hv⟩, below1 _ _⟩
def lessE (a b c d : Int) : Int := seqE (okE (mrB a && (mrB b && (mrB c && mrB d))) 10) (okE (mrB (a - c) && mrB (b - d)) 10)
def lessV (a b c d : Int) : Sh := if lessE a b c d = 0 then ⟨a - c, b - d⟩ else sh0
theorem less_c (a b c d : Int) (w : World) (re : Int) (rv : Sh) (he : Hid (re = lessE a b c d)) (hv : Hid (rv = lessV a b c d)) :
  Calls Tryz.prog 130 #[.agg #[.int .i64 a, .int .i64 b], .agg #[.int .i64 c, .int .i64 d]] w fun e w' => e = .returned (.tuple #[.agg #[.int .i64 rv.a, .int .i64 rv.b], .int .i64 re]) ∧ Below w.heap.size w w' := by
 have HF0 := Lib.hid (Fr.start w)
 have HF1 := al9 (((((HF0.out.al 79 #[.int .i64 a, .int .i64 b]).al 79 #[.int .i64 c, .int .i64 d]).al 79 #[.int .i64 0, .int .i64 0]).al 2 #[.int .i64 a, .int .i64 b, .int .i64 c, .int .i64 d]))
 clear HF0
 have c0_0 := (HF1.out.b 0 rfl).cv 0 (.int .i64 a) rfl
 have c0_1 := (HF1.out.b 0 rfl).cv 1 (.int .i64 b) rfl
 have c1_0 := (HF1.out.b 1 rfl).cv 0 (.int .i64 c) rfl
 have c1_1 := (HF1.out.b 1 rfl).cv 1 (.int .i64 d) rfl
 have KR := Lib.hid (fun (g : Nat) (W : World) (h : Blk W g 2 #[.int .i64 a, .int .i64 b, .int .i64 c, .int .i64 d]) => right4 g 0 4 a b c d W (h.cell 0) (h.cell 1) (h.cell 2) (h.cell 3))
 cases hq : (mrB a && (mrB b && (mrB c && mrB d)))
 case false =>
  have HE : Hid (re = 10) := he.out.trans (by unfold lessE okE; rw [hq]; rfl)
  have HV : Hid (rv = sh0) := hv.out.trans (by unfold lessV lessE okE; rw [hq]; rfl)
  rw [hq] at KR
  clear hq
  go_enter Tryz.func130, Tryz.ntmps130
  go_wp2_with fail
  refine (KR.out _ _ (HF1.out.b 3 rfl)).mono ?_
  rintro e W1 ⟨rfl, rfl⟩
  clear c0_0 c0_1 c1_0 c1_1
  have qz := HF1.out.b 2 rfl
  have c2_0 := qz.cv 0 (.int .i64 0) rfl
  have f2_0 := qz.free 0
  have c2_1 := qz.cv 1 (.int .i64 0) rfl
  have f2_1 := qz.free 1
  clear qz
  go_wp2_with fail
  refine bodyPost_ret (v := .tuple #[.agg #[.int .i64 0, .int .i64 0], .int .i64 10]) (by simp [results, Tryz.results130, go_sem, c2_0, c2_1]) rfl ⟨by rw [HE.out, HV.out] <;> rfl, ?_⟩
  have hg := HF1.out.ge 2 rfl
  exact HF1.out.bl
 have hq' := hq
 simp only [Bool.and_eq_true] at hq'
 obtain ⟨m1, m2, m3, m4⟩ := hq'
 have n1 := mr_iff.1 m1
 have n2 := mr_iff.1 m2
 have n3 := mr_iff.1 m3
 have n4 := mr_iff.1 m4
 have K1 := Lib.hid (fun W => share_t a b (in53_small (by omega)) (in53_small (by omega)) W)
 have K2 := Lib.hid (fun W => share_t c d (in53_small (by omega)) (in53_small (by omega)) W)
 have K3 := Lib.hid (fun W => psub_c (fb a) (fb b) (fb c) (fb d) a b c d (fb_rep _ (by omega)) (fb_rep _ (by omega)) (fb_rep _ (by omega)) (fb_rep _ (by omega)) m1 m2 m3 m4 W)
 have K4 := Lib.hid (fun u v hu hv W => sides_c u v (a - c) (b - d) hu hv (in53_small (by omega)) (in53_small (by omega)) W)
 have K5 := Lib.hid (fun (g : Nat) (W : World) (h : Blk W g 2 #[.int .i64 (a - c), .int .i64 (b - d)]) => right2 g 0 2 (a - c) (b - d) W (h.cell 0) (h.cell 1))
 rw [hq] at KR
 clear m1 m2 m3 m4 n1 n2 n3 n4
 cases hr : (mrB (a - c) && mrB (b - d))
 case false =>
  have HE : Hid (re = 10) := he.out.trans (by unfold lessE okE; rw [hq, hr]; rfl)
  have HV : Hid (rv = sh0) := hv.out.trans (by unfold lessV lessE okE; rw [hq, hr]; rfl)
  rw [hr] at K5
  clear hq hr
  generalize a - c = x at *
  generalize b - d = y at *
  go_enter Tryz.func130, Tryz.ntmps130
  go_wp2_with fail
  refine (KR.out _ _ (HF1.out.b 3 rfl)).mono ?_
  rintro e W1 ⟨rfl, rfl⟩
  have HF2 := Lib.hid (HF1.out.cut 3)
  clear HF1
  go_wp2_with fail
  refine (K1.out _).mono ?_
  rintro e W2 ⟨rfl, hb⟩
  clear c0_0 c0_1 c1_0 c1_1
  have HF3 := Lib.hid (HF2.out.ca hb)
  clear hb HF2
  have c1_0 := (HF3.out.b 1 rfl).cv 0 (.int .i64 c) rfl
  have c1_1 := (HF3.out.b 1 rfl).cv 1 (.int .i64 d) rfl
  go_wp2_with fail
  refine (K2.out _).mono ?_
  rintro e W3 ⟨rfl, hb⟩
  clear c1_0 c1_1
  have HF4 := Lib.hid (HF3.out.ca hb)
  clear hb HF3
  go_wp2_with fail
  refine (K3.out _).mono ?_
  rintro e W4 ⟨⟨u, v, rfl, hu, hv⟩, hb⟩
  have HF5 := Lib.hid (HF4.out.ca hb)
  clear hb HF4
  go_wp2_with fail
  refine (K4.out _ _ hu hv _).mono ?_
  rintro e W5 ⟨rfl, rfl⟩
  have HF6 := al9 ((HF5.out.al 2 #[.int .i64 x, .int .i64 y]))
  clear HF5
  go_wp2_with fail
  refine (K5.out _ _ (HF6.out.b 3 rfl)).mono ?_
  rintro e W6 ⟨rfl, rfl⟩
  have qz := HF6.out.b 2 rfl
  have c2_0 := qz.cv 0 (.int .i64 0) rfl
  have f2_0 := qz.free 0
  have c2_1 := qz.cv 1 (.int .i64 0) rfl
  have f2_1 := qz.free 1
  clear qz
  go_wp2_with fail
  refine bodyPost_ret (v := .tuple #[.agg #[.int .i64 0, .int .i64 0], .int .i64 10]) (by simp [results, Tryz.results130, go_sem, c2_0, c2_1]) rfl ⟨by rw [HE.out, HV.out] <;> rfl, ?_⟩
  have hg := HF6.out.ge 2 rfl
  exact (bSg (bSg HF6.out.bl hg _ _) hg _ _)
 case true =>
  have HE : Hid (re = 0) := he.out.trans (by unfold lessE okE; rw [hq, hr]; rfl)
  have HV : Hid (rv = ⟨a - c, b - d⟩) := hv.out.trans (by unfold lessV lessE okE; rw [hq, hr]; rfl)
  rw [hr] at K5
  clear hq hr
  generalize a - c = x at *
  generalize b - d = y at *
  go_enter Tryz.func130, Tryz.ntmps130
  go_wp2_with fail
  refine (KR.out _ _ (HF1.out.b 3 rfl)).mono ?_
  rintro e W1 ⟨rfl, rfl⟩
  have HF2 := Lib.hid (HF1.out.cut 3)
  clear HF1
  go_wp2_with fail
  refine (K1.out _).mono ?_
  rintro e W2 ⟨rfl, hb⟩
  clear c0_0 c0_1 c1_0 c1_1
  have HF3 := Lib.hid (HF2.out.ca hb)
  clear hb HF2
  have c1_0 := (HF3.out.b 1 rfl).cv 0 (.int .i64 c) rfl
  have c1_1 := (HF3.out.b 1 rfl).cv 1 (.int .i64 d) rfl
  go_wp2_with fail
  refine (K2.out _).mono ?_
  rintro e W3 ⟨rfl, hb⟩
  clear c1_0 c1_1
  have HF4 := Lib.hid (HF3.out.ca hb)
  clear hb HF3
  go_wp2_with fail
  refine (K3.out _).mono ?_
  rintro e W4 ⟨⟨u, v, rfl, hu, hv⟩, hb⟩
  have HF5 := Lib.hid (HF4.out.ca hb)
  clear hb HF4
  go_wp2_with fail
  refine (K4.out _ _ hu hv _).mono ?_
  rintro e W5 ⟨rfl, rfl⟩
  have HF6 := al9 ((HF5.out.al 2 #[.int .i64 x, .int .i64 y]))
  clear HF5
  go_wp2_with fail
  refine (K5.out _ _ (HF6.out.b 3 rfl)).mono ?_
  rintro e W6 ⟨rfl, rfl⟩
  have qz := HF6.out.b 2 rfl
  have c2_0 := qz.cv 0 (.int .i64 0) rfl
  have f2_0 := qz.free 0
  have c2_1 := qz.cv 1 (.int .i64 0) rfl
  have f2_1 := qz.free 1
  clear qz
  go_wp2_with fail
  refine bodyPost_ret (v := .tuple #[.agg #[.int .i64 x, .int .i64 y], .int .i64 0]) (by simp [results, Tryz.results130, go_sem, c2_0, c2_1]) rfl ⟨by rw [HE.out, HV.out] <;> rfl, ?_⟩
  have hg := HF6.out.ge 2 rfl
  exact (bSg (bSg HF6.out.bl hg _ _) hg _ _)
end Go.Proofs.YtiaabmhjkoohmaaGreat
namespace Go.Proofs.YtiaabmhjkoohmaaGreat
set_option maxRecDepth 100000
set_option maxHeartbeats 25600000
set_option linter.unusedVariables false
set_option linter.unusedSimpArgs false
open Go.RowKit Tryz
open Lib (hid)
def RowR (E : Int) (L : List Sh) (w : World) (e : Ending) (w' : World) : Prop :=
 ((E = 0 ∧ ∃ v, e = .returned (.tuple #[v, .int .i64 0]) ∧ OwnS w' w.heap.size v L.length L) ∨ (E ≠ 0 ∧ e = .returned (.tuple #[.slice none 0 0, .int .i64 E]))) ∧ Below w.heap.size w w'
def lessAtE (x y : List Sh) (k : Nat) : Int := lessE (x.getD k sh0).a (x.getD k sh0).b (y.getD k sh0).a (y.getD k sh0).b
def lessAtV (x y : List Sh) (k : Nat) : Sh := lessV (x.getD k sh0).a (x.getD k sh0).b (y.getD k sh0).a (y.getD k sh0).b
def deltaE (x y : List Sh) : Int := if x.length = y.length then fz9 (lessAtE x y) x.length else 3
def deltaL (x y : List Sh) (n : Nat) : List Sh := (List.range n).map (lessAtV x y)
theorem deltaL_next (x y : List Sh) (k : Nat) : deltaL x y (k + 1) = deltaL x y k ++ [lessAtV x y k] := by
 unfold deltaL; rw [List.range_succ, List.map_append]; rfl
theorem deltaL_len (x y : List Sh) (n : Nat) : (deltaL x y n).length = n := by simp [deltaL]
theorem zero_box0 {w w2 : World} {t : TypeId} {cs : Array Value} (h : Below ((w.alloc (.cells cs t)).drew).heap.size ((w.alloc (.cells cs t)).drew) w2) : Blk w2 w.heap.size t cs :=
 Blk.below (w := (w.alloc (.cells cs t)).drew) (Blk.mk w t cs) h (by simp)
theorem sdelta_c (x y : List Sh) (A B : Option Addr) (n c m c' : Nat) (w : World) (hn6 : n ≤ 64) (hx : Sh9 w A n x) (hy : Sh9 w B m y) (E : Int) (L : List Sh) (hE : Hid (E = deltaE x y)) (hL : Hid (L = deltaL x y n)) :
  Calls prog 87 #[.slice A n c, .slice B m c'] w (RowR E L w) := by
 have HN : Hid (n = x.length) := hx.1
 have HM : Hid (m = y.length) := hy.1
 have hn9 := hx.2.1
 have hm9 := hy.2.1
 by_cases hnm : n = m
 case neg =>
  have tn : ((n : Int) != (m : Int)) = true := by simp; omega
  have HE : Hid (E = 3) := hE.out.trans (by unfold deltaE; rw [if_neg (by rw [← HN.out, ← HM.out]; exact hnm)])
  clear hnm
  go_enter func87, ntmps87
  go_wp2_with fail
  refine bodyPost_ret (v := .tuple #[.slice none 0 0, .int .i64 3]) (by simp [results, results87, go_sem]) rfl ⟨Or.inr ⟨by rw [HE.out]; decide, by rw [HE.out]⟩, b0 _⟩
 subst hnm
 have HX := hid hx
 have HY := hid hy
 have HEE : Hid (E = fz9 (lessAtE x y) n) := hE.out.trans (by unfold deltaE; rw [if_pos (by rw [← HN.out, ← HM.out]), HN.out])
 clear hx hy hE
 go_enter func87, ntmps87
 go_wp2_with fail
 go_loopw [6, 17] (fun v i wr => ∃ k : Nat, k ≤ n ∧ i = .int .i64 k ∧ Hid (fz9 (lessAtE x y) k = 0) ∧ Hid (wr.ownsRow w.heap.size 79 2 v k ((deltaL x y k).flatMap shC)) ∧ Hid (Below w.heap.size w wr)) (fun _ i _ => n - (intOf i).toNat)
 case atStart => exact ⟨0, Nat.zero_le _, rfl, rfl, World.ownsRow_nil _ _ _ _, b0 _⟩
 case round =>
  obtain ⟨k, hk', rfl, HZ, HO, HB⟩ := hrel
  by_cases hk : k < n
  case neg =>
   obtain rfl : n = k := by omega
   clear hk hk'
   go_wp2_with fail
   go_ret2
   refine ⟨Or.inl ⟨HEE.out.trans HZ.out, _, rfl, ?_⟩, HB.out⟩
   have hl := hL.out
   subst hl
   exact ⟨rfl, by rw [deltaL_len]; exact HO.out⟩
  obtain ⟨bx, ox, rfl, hltx, hatx⟩ := (HX.out.below HB.out).2.2 (by omega)
  obtain ⟨by', oy, rfl, hlty, haty⟩ := (HY.out.below HB.out).2.2 (by omega)
  obtain ⟨x0, x1⟩ := hatx k (by rw [← HN.out]; exact hk)
  obtain ⟨y0, y1⟩ := haty k (by rw [← HM.out]; exact hk)
  obtain ⟨r, hr⟩ : ∃ r, r = lessAtE x y k := ⟨_, rfl⟩
  obtain ⟨v, hv⟩ : ∃ v, v = lessAtV x y k := ⟨_, rfl⟩
  have KL := hid (fun W => less_c (x.getD k sh0).a (x.getD k sh0).b (y.getD k sh0).a (y.getD k sh0).b W r v hr hv)
  have HBAD : Hid (r ≠ 0 → E = r) := fun h => by
   rw [hr] at h ⊢
   exact HEE.out.trans (fS9 (lessAtE x y) k _ HZ.out h hk)
  have HNX : Hid (r = 0 → fz9 (lessAtE x y) (k + 1) = 0) := fun h => ft9 _ _ HZ.out (by rw [← hr]; exact h)
  have HDN : Hid (deltaL x y (k + 1) = deltaL x y k ++ [v]) := by rw [hv]; exact deltaL_next x y k
  clear hr hv hatx haty
  generalize x.getD k sh0 = xk at *
  generalize y.getD k sh0 = yk at *
  obtain ⟨xa, xb⟩ := xk
  obtain ⟨ya, yb⟩ := yk
  obtain ⟨va, vb⟩ := v
  dsimp only at x0 x1 y0 y1 KL
  have G : Hid (∀ W, Below wr.heap.size wr W → Below wr.heap.size wr W ∧ (W.cell? ⟨bx, ox + k * 2, none⟩ = some (.int .i64 xa) ∧ W.cell? ⟨bx, ox + k * 2 + 1, none⟩ = some (.int .i64 xb) ∧ W.cell? ⟨by', oy + k * 2, none⟩ = some (.int .i64 ya) ∧ W.cell? ⟨by', oy + k * 2 + 1, none⟩ = some (.int .i64 yb))) := fun W hW =>
   ⟨hW, (hW.cell (p := ⟨bx, ox + k * 2, none⟩) hltx).trans x0, (hW.cell (p := ⟨bx, ox + k * 2 + 1, none⟩) hltx).trans x1, (hW.cell (p := ⟨by', oy + k * 2, none⟩) hlty).trans y0, (hW.cell (p := ⟨by', oy + k * 2 + 1, none⟩) hlty).trans y1⟩
  go_wp2_with fail
  go_region_held3 (fun W => Below wr.heap.size wr W ∧ (W.cell? ⟨bx, ox + k * 2, none⟩ = some (.int .i64 xa) ∧ W.cell? ⟨bx, ox + k * 2 + 1, none⟩ = some (.int .i64 xb) ∧ W.cell? ⟨by', oy + k * 2, none⟩ = some (.int .i64 ya) ∧ W.cell? ⟨by', oy + k * 2 + 1, none⟩ = some (.int .i64 yb)))
   (first | assumption | exact G.out _ (b0 _).drew | exact G.out _ (bA (b0 _) _).drew | exact G.out _ (bA (bT (b0 _).drew hb2) _) | exact G.out _ (bT (bA (b0 _) _).drew hb2) | exact G.out _ (bSg (bSg (bT (bA (b0 _) _).drew hb2) (Nat.le_refl _) _ _) (Nat.le_refl _) _ _) | (exact sK G.out (by assumption) (by assumption)) | (exact sK G.out (by assumption) (below1 _ _)))
   (first | (go_at_call 130; (with_reducible refine (KL.out _).mono ?_); rintro e w2 ⟨rfl, hb2⟩; (first | (have zb := zero_box0 hb2; obtain ⟨z0, z1, z2, z3⟩ := zb.all2) | skip)))
  all_goals
   have hB := (show Below wr.heap.size wr _ ∧ _ from by assumption).1
   have HBB := hid (bT HB.out hB)
   have hs5 := HBB.out.size
   first | (have hy := (zb.setJ 0 (.int .i64 va)).setJ 1 (.int .i64 vb)) | (have hy := Blk.mk w2 79 #[.int .i64 va, .int .i64 vb])
   have q0 := hy.cv 0 (.int .i64 va) rfl
   have q1 := hy.cv 1 (.int .i64 vb) rfl
   clear hy
   try clear z0 z1 z2 z3 zb
   have HO5 := hid (oB9 HO.out hB)
   by_cases h0 : r = 0
   ·
    have HNX' := hid (HNX.out h0)
    subst h0
    clear HBAD hB
    go_wp2_with (at_builtin; refine wa9 _ rfl _ _ 71 rfl 79 _ 2 16 underlying71 info_share rfl (by decide) rfl HO5.out _ rfl (by first | rfl | simp) rfl (by simp [Value.oneCell']) (by omega) (by omega) (by first | omega | exact hs5 | (simp; omega)) ?_; intro v' w11 ho' hg)
    go_roundw
    case rel =>
     refine ⟨k + 1, by omega, by go_num, HNX'.out, ?_, bP HBB.out HO5.out hg (Nat.le_refl _)⟩
     unfold Hid
     rw [HDN.out, List.flatMap_append]
     simpa [shC] using ho'
    case measure => simp [intOf]; omega
   ·
    have tr : (r != 0) = true := by simpa using h0
    have HE := hid (HBAD.out h0)
    have H0 := hid h0
    clear h0 HNX HBAD
    go_wp2_with fail
    refine bodyPost_ret (v := .tuple #[.slice none 0 0, .int .i64 r]) (by simp [results, results87, go_sem]) rfl ⟨Or.inr ⟨by rw [HE.out]; exact H0.out, by rw [HE.out]⟩, HBB.out⟩
def postAt (x y : List Sh) (i : Nat) : Bool := okO Ao9 (x.getD i sh0).a (y.getD i sh0).a && okO Ao9 (x.getD i sh0).b (y.getD i sh0).b
def postE (x y : List Sh) : Int := if x.length = y.length then okE ((List.range x.length).all (postAt x y)) 10 else 3
def postL (x y : List Sh) : List Sh := (List.range x.length).map fun i => ⟨(x.getD i sh0).a + (y.getD i sh0).a, (x.getD i sh0).b + (y.getD i sh0).b⟩
theorem postL_len (x y : List Sh) : (postL x y).length = x.length := by simp [postL]
def two (x y : List Sh) : Nat → List Sh := fun k => if k = 0 then x else y
theorem two_ok (x y : List Sh) (i : Nat) : (∀ k, k < 2 → okS (two x y) k i = true) ↔ postAt x y i = true := by
 have h0 : okS (two x y) 0 i = (mrB (x.getD i sh0).a && mrB (x.getD i sh0).b && mrB (x.getD i sh0).a && mrB (x.getD i sh0).b) := by
  simp [okS, two, sumI, sumTo]
 have h1 : okS (two x y) 1 i = (mrB (y.getD i sh0).a && mrB (y.getD i sh0).b && mrB ((x.getD i sh0).a + (y.getD i sh0).a) && mrB ((x.getD i sh0).b + (y.getD i sh0).b)) := by
  simp [okS, two, sumI, sumTo]
 constructor
 ·
  intro h
  have a0 := h 0 (by decide)
  have a1 := h 1 (by decide)
  rw [h0] at a0
  rw [h1] at a1
  simp only [Bool.and_eq_true] at a0 a1
  obtain ⟨⟨⟨p1, p2⟩, _⟩, _⟩ := a0
  obtain ⟨⟨⟨q1, q2⟩, q3⟩, q4⟩ := a1
  simp only [postAt, okO, Ao9, Bool.and_eq_true]
  exact ⟨⟨⟨p1, q1⟩, q3⟩, ⟨p2, q2⟩, q4⟩
 ·
  intro h k hk
  simp only [postAt, okO, Ao9, Bool.and_eq_true] at h
  obtain ⟨⟨⟨p1, q1⟩, q3⟩, ⟨p2, q2⟩, q4⟩ := h
  rcases (by omega : k = 0 ∨ k = 1) with rfl | rfl
  ·
   rw [h0, p1, p2]; rfl
  ·
   rw [h1, q1, q2, q3, q4]; rfl
theorem two_sum (x y : List Sh) : sumL (two x y) x.length 2 0 = postL x y := by
 unfold sumL postL
 apply List.map_congr_left
 intro i _
 simp [sumI, sumTo, two]
theorem spost_c (x y : List Sh) (A B : Option Addr) (n c m c' : Nat) (w : World) (hn6 : n ≤ 64) (hx : Sh9 w A n x) (hy : Sh9 w B m y) (E : Int) (L : List Sh) (hE : Hid (E = postE x y)) (hL : Hid (L = postL x y)) :
  Calls prog 135 #[.slice A n c, .slice B m c'] w (RowR E L w) := by
 have HN : Hid (n = x.length) := hx.1
 have HM : Hid (m = y.length) := hy.1
 have hn9 := hx.2.1
 have hm9 := hy.2.1
 by_cases hnm : n = m
 case neg =>
  have tn : ((n : Int) != (m : Int)) = true := by simp; omega
  have HE : Hid (E = 3) := hE.out.trans (by unfold postE; rw [if_neg (by rw [← HN.out, ← HM.out]; exact hnm)])
  clear hnm
  go_enter func135, ntmps135
  go_wp2_with fail
  refine bodyPost_ret (v := .tuple #[.slice none 0 0, .int .i64 3]) (by simp [results, results135, go_sem]) rfl ⟨Or.inr ⟨by rw [HE.out]; decide, by rw [HE.out]⟩, b0 _⟩
 subst hnm
 have hf := (Fr.start w).al 71 #[.slice A n c, .slice B n c']
 have hrs : RowsSl (w.alloc (.cells #[.slice A n c, .slice B n c'] 71)) (some ⟨w.heap.size, 0, none⟩) 2 n (two x y) := by
  refine ⟨by omega, fun _ => ⟨w.heap.size, 0, rfl, (Blk.mk w _ _).lt, fun k hk => ?_⟩⟩
  rcases (by omega : k = 0 ∨ k = 1) with rfl | rfl
  ·
   exact ⟨A, c, (Blk.mk w _ _).cell 0, hx.below (below1 w _)⟩
  ·
   exact ⟨B, c', (Blk.mk w _ _).cell 1, hy.below (below1 w _)⟩
 have K := hid (sum_c (two x y) _ 2 2 n _ hrs hn6)
 have HB := hid hf.bl
 have HE : Hid ((∀ k i, k < 2 → i < n → okS (two x y) k i = true) → E = 0) := fun h => hE.out.trans (by
  unfold postE okE
  rw [if_pos (by rw [← HN.out, ← HM.out]), if_pos]
  rw [List.all_eq_true]
  intro i hi
  exact (two_ok x y i).1 (fun k hk => h k i hk (by rw [HN.out]; simpa using hi)))
 have HE' : Hid ((∃ k i, k < 2 ∧ i < n ∧ okS (two x y) k i = false) → E = 10) := fun ⟨k, i, h1, h2, h3⟩ => hE.out.trans (by
  unfold postE okE
  rw [if_pos (by rw [← HN.out, ← HM.out]), if_neg]
  intro h
  rw [List.all_eq_true] at h
  have := (two_ok x y i).2 (h i (by rw [← HN.out]; simpa using h2)) k h1
  rw [h3] at this
  cases this)
 have HLL : Hid (L = sumL (two x y) n 2 0 ∧ L.length = n) := by
  refine ⟨hL.out.trans ?_, ?_⟩
  ·
   rw [← two_sum, HN.out]
  ·
   rw [hL.out, postL_len, HN.out]
 clear hf hrs hx hy hE hL HM HN
 go_enter func135, ntmps135
 go_wp2_with fail
 refine K.out.mono ?_
 rintro e w1 ⟨⟨h, v, rfl, ho⟩ | ⟨h, rfl⟩, hb⟩
 ·
  have HO := hid ho
  have HBB := hid (bT HB.out hb)
  have HZ := hid (HE.out h)
  clear ho hb h K
  go_wp2_with fail
  refine bodyPost_ret (v := .tuple #[v, .int .i64 0]) (by simp [results, results135, go_sem]) rfl ⟨Or.inl ⟨HZ.out, v, rfl, ?_⟩, HBB.out⟩
  rw [HLL.out.2, HLL.out.1]
  exact ⟨HO.out.1, oM9 HO.out.2 HB.out.size⟩
 ·
  have HBB := hid (bT HB.out hb)
  have HZ := hid (HE'.out h)
  clear hb h K
  go_wp2_with fail
  refine bodyPost_ret (v := .tuple #[.slice none 0 0, .int .i64 10]) (by simp [results, results135, go_sem]) rfl ⟨Or.inr ⟨by rw [HZ.out]; decide, by rw [HZ.out]⟩, HBB.out⟩
def sideE (l : List Sh) : Int := okE ((List.range l.length).all (totAt l)) 10
def sideV (l : List Sh) : Sh := if sideE l = 0 then ⟨sumTo (fun i => (l.getD i sh0).a) l.length, sumTo (fun i => (l.getD i sh0).b) l.length⟩ else sh0
theorem tot_cases {l : List Sh} {n : Nat} {w w' : World} {e : Ending} (h : Tot l n w e w') (hn : n = l.length) (E : Int) (V : Sh) (hE : Hid (E = sideE l)) (hV : Hid (V = sideV l)) : e = .returned (.tuple #[.agg #[.int .i64 V.a, .int .i64 V.b], .int .i64 E]) ∧ Below w.heap.size w w' := by
 obtain ⟨⟨h1, rfl⟩ | ⟨⟨k, hk, hf⟩, rfl⟩, hb⟩ := h
 ·
  have h0 : sideE l = 0 := by
   unfold sideE okE
   rw [if_pos]
   rw [List.all_eq_true]
   intro i hi
   exact h1 i (by rw [hn]; simpa using hi)
  rw [hE.out, hV.out]
  unfold sideV
  rw [if_pos h0, h0, hn]
  exact ⟨rfl, hb⟩
 ·
  have h0 : sideE l = 10 := by
   unfold sideE okE
   rw [if_neg]
   intro h
   rw [List.all_eq_true] at h
   have := h k (by rw [← hn]; simpa using hk)
   rw [hf] at this
   cases this
  rw [hE.out, hV.out]
  unfold sideV
  rw [if_neg (by rw [h0]; decide), h0]
  exact ⟨rfl, hb⟩
theorem ssides_c (l : List Sh) (A : Option Addr) (n c : Nat) (w : World) (hl : Sh9 w A n l) (E : Int) (V : Sh) (hE : Hid (E = sideE l)) (hV : Hid (V = sideV l)) :
  Calls prog 165 #[.slice A n c] w fun e w' => e = .returned (.tuple #[.agg #[.int .i64 V.a, .int .i64 V.b], .int .i64 E]) ∧ Below w.heap.size w w' := by
 have hf := (Fr.start w).al 79 #[.int .i64 0, .int .i64 0]
 have HF := hid hf
 have K := hid (fun W (hW : Below w.heap.size w W) => (total_c l A n c W (hl.below hW)).mono fun e w' h => tot_cases h hl.1 E V hE hV)
 clear hf hl hE hV
 obtain ⟨a, b⟩ := V
 go_enter func165, ntmps165
 go_wp2_with fail
 refine (K.out _ HF.out.bl).mono ?_
 rintro e w1 ⟨rfl, hb⟩
 have HF1 := hid (HF.out.ca hb)
 have qz := HF1.out.b 0 rfl
 have c0 := qz.cv 0 (.int .i64 0) rfl
 have c1 := qz.cv 1 (.int .i64 0) rfl
 have f0 := qz.free 0
 have f1 := qz.free 1
 clear qz
 clear hb K
 go_wp2_with fail
 refine bodyPost_ret (v := .tuple #[.agg #[.int .i64 a, .int .i64 b], .int .i64 E]) (by simp [results, results165, go_sem, c0, c1]) rfl ⟨rfl, ?_⟩
 exact bSg (bSg HF1.out.bl (Nat.le_refl _) _ _) (Nat.le_refl _) _ _
theorem semp_c (l : List Sh) (A : Option Addr) (n c : Nat) (w : World) (hl : Sh9 w A n l) (E : Int) (V : Sh) (hE : Hid (E = sideE l)) (hV : Hid (V = sideV l)) :
  Calls prog 133 #[.slice A n c] w fun e w' => e = .returned (.tuple #[.int .i64 V.a, .int .i64 E]) ∧ Below w.heap.size w w' := by
 have K := hid (ssides_c l A n c w hl E V hE hV)
 clear hl hE hV
 obtain ⟨a, b⟩ := V
 go_enter func133, ntmps133
 go_wp2_with fail
 refine K.out.mono ?_
 rintro e w1 ⟨rfl, hb⟩
 have HB := hid (bA hb (.cells #[.int .i64 a, .int .i64 b] 79))
 clear hb K
 go_wp2_with fail
 refine bodyPost_ret (v := .tuple #[.int .i64 a, .int .i64 E]) (by simp [results, results133, go_sem]) rfl ⟨rfl, HB.out⟩
theorem madd_c (x y : Int) (w : World) (E V : Int) (hE : Hid (E = okE (okO Ao9 x y) 10)) (hV : Hid (E = 0 → V = x + y)) (hV0 : Hid (E ≠ 0 → V = 0)) :
  Calls prog 124 #[.int .i64 x, .int .i64 y] w fun e w' => e = .returned (.tuple #[.int .i64 V, .int .i64 E]) ∧ Below w.heap.size w w' := by
 cases h : okO Ao9 x y
 ·
  have h0 : E = 10 := hE.out.trans (by rw [h]; rfl)
  have h1 : V = 0 := hV0.out (by rw [h0]; decide)
  rw [h0, h1]; exact AddOp_f x y w h
 ·
  have h0 : E = 0 := hE.out.trans (by rw [h]; rfl)
  have h1 : V = x + y := hV.out h0
  rw [h0, h1]; exact AddOp_c x y w h
theorem msub_c (x y : Int) (w : World) (E V : Int) (hE : Hid (E = okE (okO So9 x y) 10)) (hV : Hid (E = 0 → V = x - y)) (hV0 : Hid (E ≠ 0 → V = 0)) :
  Calls prog 92 #[.int .i64 x, .int .i64 y] w fun e w' => e = .returned (.tuple #[.int .i64 V, .int .i64 E]) ∧ Below w.heap.size w w' := by
 cases h : okO So9 x y
 ·
  have h0 : E = 10 := hE.out.trans (by rw [h]; rfl)
  have h1 : V = 0 := hV0.out (by rw [h0]; decide)
  rw [h0, h1]; exact SubOp_f x y w h
 ·
  have h0 : E = 0 := hE.out.trans (by rw [h]; rfl)
  have h1 : V = x - y := hV.out h0
  rw [h0, h1]; exact SubOp_c x y w h
theorem ev_ex (e v : Int) : ∃ E V : Int, Hid (E = e) ∧ Hid (E = 0 → V = v) ∧ Hid (E ≠ 0 → V = 0) := by
 by_cases h : e = 0
 ·
  exact ⟨e, v, rfl, fun _ => rfl, fun h' => absurd h h'⟩
 ·
  exact ⟨e, 0, rfl, fun h' => absurd h' h, fun _ => rfl⟩
def tsumE (L : List Tk) (n : Nat) : Int := fz9 (fun k => okE (okO Ao9 (sumT L k) (L.getD k tk0).ta) 10) n
theorem asum_g (A : Option Addr) (n c : Nat) (L : List Tk) (w : World) (hl : TkSl w A n L) (re rv : Int) (he : Hid (re = tsumE L n)) (hv : Hid (re = 0 → rv = sumT L n)) (hv0 : Hid (re ≠ 0 → rv = 0)) :
  Calls prog 132 #[.slice A n c] w fun e w' => e = .returned (.tuple #[.int .i64 rv, .int .i64 re]) ∧ Below w.heap.size w w' := by
 have HL := hid hl
 have hn9 := hl.2.1
 have H0 : Hid (sumT L 0 = 0) := rfl
 clear hl
 go_enter func132, ntmps132
 go_wp2_with fail
 go_loopw [4, 11] (fun sm i wr => ∃ k : Nat, k ≤ n ∧ i = .int .i64 k ∧ sm = .int .i64 (sumT L k) ∧ Hid (tsumE L k = 0) ∧ Hid (Below w.heap.size w wr)) (fun _ i _ => n - (intOf i).toNat)
 case atStart => exact ⟨0, Nat.zero_le _, rfl, by rw [H0.out], rfl, b0 _⟩
 case round =>
  obtain ⟨k, hk', rfl, rfl, HZ, HB⟩ := hrel
  by_cases hk : k < n
  case neg =>
   obtain rfl : k = n := by omega
   have HE : Hid (re = 0) := he.out.trans HZ.out
   have HV := hid (hv.out HE.out)
   clear hk hk'
   go_wp2_with fail
   refine bodyPost_ret (v := .tuple #[.int .i64 (sumT L k), .int .i64 0]) (by simp [results, results132, go_sem]) rfl ⟨by rw [HE.out, HV.out], HB.out⟩
  obtain ⟨b, off, rfl, hlt, hat⟩ := (HL.out.below HB.out).2.2 (by omega)
  have hcl := hat k hk
  have HSU : Hid (sumT L (k + 1) = sumT L k + (L.getD k tk0).ta) := rfl
  obtain ⟨E, V, hE, hV, hV0⟩ := ev_ex (okE (okO Ao9 (sumT L k) (L.getD k tk0).ta) 10) (sumT L k + (L.getD k tk0).ta)
  have KA := hid (fun W => madd_c (sumT L k) (L.getD k tk0).ta W E V hE hV hV0)
  have HST : Hid (E ≠ 0 → re = E ∧ rv = 0) := fun h => by
   have : re = E := he.out.trans (by
    unfold tsumE
    rw [fS9 _ k _ HZ.out (by show okE _ _ ≠ 0; rw [← hE.out]; exact h) hk]
    exact hE.out.symm)
   exact ⟨this, hv0.out (by rw [this]; exact h)⟩
  have HNX : Hid (E = 0 → tsumE L (k + 1) = 0 ∧ V = sumT L (k + 1)) := fun h => ⟨ft9 _ _ HZ.out (by rw [← hE.out]; exact h), by rw [HSU.out]; exact hV.out h⟩
  clear hE hV hV0 hat
  generalize sumT L k = sk at *
  generalize L.getD k tk0 = zz at *
  obtain ⟨zo, zb, zr, zd, zt, zc⟩ := zz
  dsimp only at KA
  obtain ⟨c0, c1, c2, c3, c4, c5⟩ : wr.cell? ⟨b, off + k * 6, none⟩ = some (.int .i64 zo) ∧ wr.cell? ⟨b, off + k * 6 + 1, none⟩ = some (.int .i64 zb) ∧ wr.cell? ⟨b, off + k * 6 + 2, none⟩ = some (.int .i64 zr) ∧ wr.cell? ⟨b, off + k * 6 + 3, none⟩ = some (.int .i64 zd) ∧ wr.cell? ⟨b, off + k * 6 + 4, none⟩ = some (.int .i64 zt) ∧ wr.cell? ⟨b, off + k * 6 + 5, none⟩ = some (.int .i64 zc) := ⟨hcl 0 _ rfl, hcl 1 _ rfl, hcl 2 _ rfl, hcl 3 _ rfl, hcl 4 _ rfl, hcl 5 _ rfl⟩
  have HB1 := hid (bA HB.out (.cells #[.int .i64 zo, .int .i64 zb, .int .i64 zr, .int .i64 zd, .int .i64 zt, .int .i64 zc] 116))
  clear hcl HSU
  go_wp2_with fail
  refine (KA.out _).mono ?_
  rintro e w2 ⟨rfl, hb2⟩
  have HB2 := hid (bT HB1.out hb2)
  clear hb2 c0 c1 c2 c3 c4 c5
  by_cases h0 : E = 0
  ·
   obtain ⟨hn1, hn2⟩ := HNX.out h0
   have HN1 := hid hn1
   have HN2 := hid hn2
   subst h0
   clear hn1 hn2 HNX HST
   go_wp2_with fail
   go_roundw
   case rel => exact ⟨k + 1, by omega, by go_num, by rw [HN2.out], HN1.out, HB2.out⟩
   case measure => simp [intOf]; omega
  ·
   have tr : (E != 0) = true := by simpa using h0
   obtain ⟨hn1, hn2⟩ := HST.out h0
   have HN1 := hid hn1
   have HN2 := hid hn2
   clear hn1 hn2 HNX HST h0
   go_wp2_with fail
   refine bodyPost_ret (v := .tuple #[.int .i64 0, .int .i64 E]) (by simp [results, results132, go_sem]) rfl ⟨by rw [HN1.out, HN2.out], HB2.out⟩
def netE (cash tax : Int) (l : List Sh) : Int := seqE (sideE l) (seqE (okE (okO So9 cash tax) 10) (okE (okO So9 (cash - tax) (sideV l).a) 10))
def netV (cash tax : Int) (l : List Sh) : Int := cash - tax - (sideV l).a
theorem snet_c (cash tax : Int) (l : List Sh) (A : Option Addr) (n c : Nat) (w : World) (hl : Sh9 w A n l) (re rv : Int) (he : Hid (re = netE cash tax l)) (hv : Hid (re = 0 → rv = netV cash tax l)) (hv0 : Hid (re ≠ 0 → rv = 0)) :
  Calls prog 131 #[.int .i64 cash, .int .i64 tax, .slice A n c] w fun e w' => e = .returned (.tuple #[.int .i64 rv, .int .i64 re]) ∧ Below w.heap.size w w' := by
 obtain ⟨E1, hE1⟩ : ∃ E, E = sideE l := ⟨_, rfl⟩
 obtain ⟨V1, hV1⟩ : ∃ V, V = sideV l := ⟨_, rfl⟩
 have K1 := hid (semp_c l A n c w hl E1 V1 hE1 hV1)
 obtain ⟨E2, V2, hE2, hV2, hV20⟩ := ev_ex (okE (okO So9 cash tax) 10) (cash - tax)
 have K2 := hid (fun W => msub_c cash tax W E2 V2 hE2 hV2 hV20)
 have H1 : Hid (re = seqE E1 (seqE E2 (okE (okO So9 (cash - tax) V1.a) 10))) := he.out.trans (by unfold netE; rw [hE1, hV1, hE2.out])
 have HV : Hid (re = 0 → rv = cash - tax - V1.a) := fun h => (hv.out h).trans (by unfold netV; rw [hV1])
 have HB0 := hid (b0 w)
 clear hl hE1 hV1 he hv
 obtain ⟨va, vb⟩ := V1
 dsimp only at K1 H1 HV
 go_enter func131, ntmps131
 go_wp2_with fail
 refine K1.out.mono ?_
 rintro e w1 ⟨rfl, hb⟩
 have HB1 := hid hb
 clear hb K1
 by_cases h0 : E1 = 0
 case neg =>
  have tr : (E1 != 0) = true := by simpa using h0
  have HE := hid (H1.out.trans (sN9 h0))
  have HZ := hid (hv0.out (by rw [HE.out]; exact h0))
  clear h0
  go_wp2_with fail
  refine bodyPost_ret (v := .tuple #[.int .i64 0, .int .i64 E1]) (by simp [results, results131, go_sem]) rfl ⟨by rw [HE.out, HZ.out], HB1.out⟩
 have H2 := hid (H1.out.trans (sE9 h0))
 subst h0
 clear H1
 go_wp2_with fail
 refine (K2.out _).mono ?_
 rintro e w2 ⟨rfl, hb⟩
 have HB2 := hid (bT HB1.out hb)
 clear hb K2
 by_cases h0 : E2 = 0
 case neg =>
  have tr : (E2 != 0) = true := by simpa using h0
  have HE := hid (H2.out.trans (sN9 h0))
  have HZ := hid (hv0.out (by rw [HE.out]; exact h0))
  clear h0
  go_wp2_with fail
  refine bodyPost_ret (v := .tuple #[.int .i64 0, .int .i64 E2]) (by simp [results, results131, go_sem]) rfl ⟨by rw [HE.out, HZ.out], HB2.out⟩
 have H3 := hid (H2.out.trans (sE9 h0))
 have K3 := hid (fun W => msub_c (cash - tax) va W re rv H3.out HV hv0)
 rw [← hV2.out h0] at K3
 subst h0
 clear H2 HV hV2 hE2 hV20 hv0 H3
 go_wp2_with fail
 refine (K3.out _).mono ?_
 rintro e w3 ⟨rfl, hb⟩
 have HB3 := hid (bT HB2.out hb)
 clear hb K3
 go_wp2_with fail
 refine bodyPost_ret (v := .tuple #[.int .i64 rv, .int .i64 re]) (by simp [results, results131, go_sem]) rfl ⟨rfl, HB3.out⟩
def stepE (lim a b cash due : Int) (back : Bool) : Int :=
 seqE (okE (mrB a && (mrB b && (mrB cash && mrB due))) 10) (seqE (okE (okO So9 due a) 10) (seqE (okE (okO Ao9 a (partI (due - a) (limI lim cash) back)) 10) (okE (okO So9 (due - a) (partI (due - a) (limI lim cash) back)) 10)))
theorem hstep_g (As Ac Ak : Option Addr) (ns cs nc cc nk ck : Nat) (lim rnd a b cash due : Int) (back : Bool) (w : World) (hl : 0 ≤ lim ∧ lim ≤ 10000) (re : Int) (he : Hid (re = stepE lim a b cash due back)) :
  Calls prog 86 #[.agg #[.slice As ns cs, .slice Ac nc cc, .slice Ak nk ck, .int .i64 lim, .int .i64 rnd], .agg #[.int .i64 a, .int .i64 b], .int .i64 cash, .int .i64 due, .bool back] w fun e w' => (∃ x y z, e = .returned (.tuple #[.int .i64 x, .agg #[.int .i64 y, .int .i64 z], .int .i64 re]) ∧ (re = 0 → x = partI (due - a) (limI lim cash) back ∧ y = a + x ∧ z = due - a - x)) ∧ Below w.heap.size w w' := by
 have HF0 := hid (Fr.start w)
 obtain ⟨E1, hE1⟩ : ∃ E, E = okE (mrB a && (mrB b && (mrB cash && mrB due))) 10 := ⟨_, rfl⟩
 obtain ⟨E2, V2, hE2, hV2, hV20⟩ := ev_ex (okE (okO So9 due a) 10) (due - a)
 obtain ⟨lv, hlv⟩ : ∃ l, l = limI lim cash := ⟨_, rfl⟩
 obtain ⟨hd, hhd⟩ : ∃ h, h = partI (due - a) lv back := ⟨_, rfl⟩
 obtain ⟨E3, V3, hE3, hV3, hV30⟩ := ev_ex (okE (okO Ao9 a hd) 10) (a + hd)
 obtain ⟨E4, V4, hE4, hV4, hV40⟩ := ev_ex (okE (okO So9 (due - a) hd) 10) (due - a - hd)
 have H1 : Hid (re = seqE E1 (seqE E2 (seqE E3 E4))) := he.out.trans (by unfold stepE; rw [hE1, hE2.out, hE3.out, hE4.out, hhd, hlv])
 have KR := hid (fun (g : Nat) (W : World) (h : Blk W g 2 #[.int .i64 a, .int .i64 b, .int .i64 cash, .int .i64 due]) => right4 g 0 4 a b cash due W (h.cell 0) (h.cell 1) (h.cell 2) (h.cell 3))
 have HF1 := al9 (((((HF0.out.al 26 #[.slice As ns cs, .slice Ac nc cc, .slice Ak nk ck, .int .i64 lim, .int .i64 rnd]).al 173 #[.int .i64 a, .int .i64 b]).al 173 #[.int .i64 0, .int .i64 0]).al 2 #[.int .i64 a, .int .i64 b, .int .i64 cash, .int .i64 due]))
 clear HF0
 cases hq : (mrB a && (mrB b && (mrB cash && mrB due)))
 case false =>
  have HE : Hid (re = 10) := by
   have h1 : E1 = 10 := by rw [hE1, hq]; rfl
   exact H1.out.trans (by rw [h1]; rfl)
  have HN0 : Hid (re ≠ 0) := by unfold Hid; rw [HE.out]; decide
  rw [hq] at KR
  clear hq hl he hE1 hlv hhd
  go_enter func86, ntmps86
  have c1_0 := (HF1.out.b 1 rfl).cv 0 (.int .i64 a) rfl
  have c1_1 := (HF1.out.b 1 rfl).cv 1 (.int .i64 b) rfl
  go_wp2_with fail
  refine (KR.out _ _ (HF1.out.b 3 rfl)).mono ?_
  rintro e W1 ⟨rfl, rfl⟩
  clear c1_0 c1_1
  have c1_0 := (HF1.out.b 1 rfl).cv 0 (.int .i64 a) rfl
  have c1_1 := (HF1.out.b 1 rfl).cv 1 (.int .i64 b) rfl
  have qz := HF1.out.b 2 rfl
  have c2_0 := qz.cv 0 (.int .i64 0) rfl
  have f2_0 := qz.free 0
  have c2_1 := qz.cv 1 (.int .i64 0) rfl
  have f2_1 := qz.free 1
  clear qz
  go_wp2_with fail
  go_region
  go_wp2_with fail
  have q0 := (HF1.out.b 1 rfl).cv 0 (.int .i64 a) rfl
  refine bodyPost_ret (v := .tuple #[.int .i64 0, .agg #[.int .i64 a, .int .i64 b], .int .i64 10]) (by simp [results, results86, go_sem, c2_0, c2_1]) rfl ⟨⟨0, a, b, by rw [HE.out], fun h => absurd h HN0.out⟩, ?_⟩
  first | exact HF1.out.bl.drew | exact (bA (bA (bA (bA (b0 _) _) _) _) _).drew
 have h1 : E1 = 0 := by rw [hE1, hq]; rfl
 have H2 := hid (H1.out.trans (sE9 h1))
 have hq' := hq
 simp only [Bool.and_eq_true] at hq'
 obtain ⟨m1, m2, m3, m4⟩ := hq'
 have KL := hid (fun W => hlimit_c As Ac Ak ns cs nc cc nk ck lim rnd cash W (mr_iff.1 m3).2 hl)
 have K2 := hid (fun W => msub_c due a W E2 V2 hE2 hV2 hV20)
 have KP := hid (fun W => hpart_c (due - a) (limI lim cash) back W)
 have K3 := hid (fun W => madd_c a hd W E3 V3 hE3 hV3 hV30)
 have K4 := hid (fun W => msub_c (due - a) hd W E4 V4 hE4 hV4 hV40)
 rw [← hlv] at KL KP
 rw [← hhd] at KP
 have HV2 : Hid (E2 = 0 → V2 = due - a) := hV2
 have HR : Hid (re = 0 → hd = partI (due - a) (limI lim cash) back) := fun _ => by rw [hhd, hlv]
 have HV3 : Hid (E3 = 0 → V3 = a + hd) := hV3
 have HV4 : Hid (E4 = 0 → V4 = due - a - hd) := hV4
 rw [hq] at KR
 clear hq m1 m2 m3 m4 hl h1 H1 hE1 hE2 hE3 hE4 hV2 hV3 hV4 hV20 hV30 hV40 hhd hlv he
 go_enter func86, ntmps86
 have c1_0 := (HF1.out.b 1 rfl).cv 0 (.int .i64 a) rfl
 have c1_1 := (HF1.out.b 1 rfl).cv 1 (.int .i64 b) rfl
 obtain ⟨c0_0, c0_1, c0_2, c0_3, c0_4⟩ := (HF1.out.b 0 rfl).q5
 go_wp2_with fail
 refine (KR.out _ _ (HF1.out.b 3 rfl)).mono ?_
 rintro e W1 ⟨rfl, rfl⟩
 go_wp2_with fail
 refine (KL.out _).mono ?_
 rintro e W2 ⟨rfl, hb⟩
 clear c1_0 c1_1 c0_0 c0_1 c0_2 c0_3 c0_4
 have HF2 := hid (HF1.out.ca hb)
 clear hb HF1
 have HF3 := hid (HF2.out.cut 3)
 clear HF2
 have c1_0 := (HF3.out.b 1 rfl).cv 0 (.int .i64 a) rfl
 have c1_1 := (HF3.out.b 1 rfl).cv 1 (.int .i64 b) rfl
 go_wp2_with fail
 refine (K2.out _).mono ?_
 rintro e W3 ⟨rfl, hb⟩
 clear c1_0 c1_1
 have HF4 := hid (HF3.out.ca hb)
 clear hb HF3
 by_cases h0 : E2 = 0
 case neg =>
  have tr : (E2 != 0) = true := by simpa using h0
  have HE : Hid (re = E2) := H2.out.trans (sN9 h0)
  have HN0 : Hid (re ≠ 0) := by unfold Hid; rw [HE.out]; exact h0
  clear h0
  have c1_0 := (HF4.out.b 1 rfl).cv 0 (.int .i64 a) rfl
  have c1_1 := (HF4.out.b 1 rfl).cv 1 (.int .i64 b) rfl
  have qz := HF4.out.b 2 rfl
  have c2_0 := qz.cv 0 (.int .i64 0) rfl
  have f2_0 := qz.free 0
  have c2_1 := qz.cv 1 (.int .i64 0) rfl
  have f2_1 := qz.free 1
  clear qz
  go_wp2_with fail
  go_region
  go_wp2_with fail
  refine bodyPost_ret (v := .tuple #[.int .i64 0, .agg #[.int .i64 a, .int .i64 b], .int .i64 E2]) (by simp [results, results86, go_sem, c2_0, c2_1]) rfl ⟨⟨0, a, b, by rw [HE.out], fun h => absurd h HN0.out⟩, ?_⟩
  have hg := HF4.out.ge 2 rfl
  first | exact (bSg (bSg HF4.out.bl hg _ _) hg _ _).drew | exact bSg (bSg HF4.out.bl.drew hg _ _) hg _ _
 have H3 := hid (H2.out.trans (sE9 h0))
 subst h0
 rw [← HV2.out rfl] at KP K4
 have HV2b := hid (HV2.out rfl)
 clear HV2
 go_wp2_with fail
 refine (KP.out _).mono ?_
 rintro e W4 ⟨rfl, rfl⟩
 have c1_0 := (HF4.out.b 1 rfl).cv 0 (.int .i64 a) rfl
 have c1_1 := (HF4.out.b 1 rfl).cv 1 (.int .i64 b) rfl
 go_wp2_with fail
 refine (K3.out _).mono ?_
 rintro e W5 ⟨rfl, hb⟩
 clear c1_0 c1_1
 have HF5 := hid (HF4.out.ca hb)
 clear hb HF4
 by_cases h0 : E3 = 0
 case neg =>
  have tr : (E3 != 0) = true := by simpa using h0
  have HE : Hid (re = E3) := H3.out.trans (sN9 h0)
  have HN0 : Hid (re ≠ 0) := by unfold Hid; rw [HE.out]; exact h0
  clear h0
  have c1_0 := (HF5.out.b 1 rfl).cv 0 (.int .i64 a) rfl
  have c1_1 := (HF5.out.b 1 rfl).cv 1 (.int .i64 b) rfl
  have qz := HF5.out.b 2 rfl
  have c2_0 := qz.cv 0 (.int .i64 0) rfl
  have f2_0 := qz.free 0
  have c2_1 := qz.cv 1 (.int .i64 0) rfl
  have f2_1 := qz.free 1
  clear qz
  go_wp2_with fail
  go_region
  go_wp2_with fail
  refine bodyPost_ret (v := .tuple #[.int .i64 0, .agg #[.int .i64 a, .int .i64 b], .int .i64 E3]) (by simp [results, results86, go_sem, c2_0, c2_1]) rfl ⟨⟨0, a, b, by rw [HE.out], fun h => absurd h HN0.out⟩, ?_⟩
  have hg := HF5.out.ge 2 rfl
  first | exact (bSg (bSg HF5.out.bl hg _ _) hg _ _).drew | exact bSg (bSg HF5.out.bl.drew hg _ _) hg _ _
 have H4 := hid (H3.out.trans (sE9 h0))
 subst h0
 have HV3b := hid (HV3.out rfl)
 clear HV3
 go_wp2_with fail
 refine (K4.out _).mono ?_
 rintro e W6 ⟨rfl, hb⟩
 have HF6 := hid (HF5.out.ca hb)
 clear hb HF5
 by_cases h0 : E4 = 0
 case neg =>
  have tr : (E4 != 0) = true := by simpa using h0
  have HE : Hid (re = E4) := H4.out
  have HN0 : Hid (re ≠ 0) := by unfold Hid; rw [HE.out]; exact h0
  clear h0
  have c1_0 := (HF6.out.b 1 rfl).cv 0 (.int .i64 a) rfl
  have c1_1 := (HF6.out.b 1 rfl).cv 1 (.int .i64 b) rfl
  have qz := HF6.out.b 2 rfl
  have c2_0 := qz.cv 0 (.int .i64 0) rfl
  have f2_0 := qz.free 0
  have c2_1 := qz.cv 1 (.int .i64 0) rfl
  have f2_1 := qz.free 1
  clear qz
  go_wp2_with fail
  go_region
  go_wp2_with fail
  refine bodyPost_ret (v := .tuple #[.int .i64 0, .agg #[.int .i64 a, .int .i64 b], .int .i64 E4]) (by simp [results, results86, go_sem, c2_0, c2_1]) rfl ⟨⟨0, a, b, by rw [HE.out], fun h => absurd h HN0.out⟩, ?_⟩
  have hg := HF6.out.ge 2 rfl
  first | exact (bSg (bSg HF6.out.bl hg _ _) hg _ _).drew | exact bSg (bSg HF6.out.bl.drew hg _ _) hg _ _
 have H5 : Hid (re = 0) := H4.out.trans h0
 subst h0
 have e4 := HV4.out rfl
 have HVV : Hid (V3 = a + hd ∧ V4 = due - a - hd) := ⟨HV3b.out, e4⟩
 clear e4 HV4 K2 K3 K4 KL KP KR
 have qz := HF6.out.b 2 rfl
 have c2_0 := qz.cv 0 (.int .i64 0) rfl
 have f2_0 := qz.free 0
 have c2_1 := qz.cv 1 (.int .i64 0) rfl
 have f2_1 := qz.free 1
 clear qz
 go_wp2_with fail
 refine bodyPost_ret (v := .tuple #[.int .i64 hd, .agg #[.int .i64 V3, .int .i64 V4], .int .i64 0]) (by simp [results, results86, go_sem, c2_0, c2_1]) rfl ⟨⟨hd, V3, V4, by rw [H5.out], fun _ => ⟨HR.out H5.out, HVV.out⟩⟩, ?_⟩
 have hg := HF6.out.ge 2 rfl
 exact (bSg (bSg HF6.out.bl hg _ _) hg _ _)
structure Sp where
 p : Int
 b : Bs
 tx : Int
 sh : Int
 rows : List Sh
 net : Int
 tk : List Tk
 py : Int
def sp0 : Sp := ⟨0, bs0, 0, 0, [], 0, [], 0⟩
def rgE (p : Int) : Int := if p < 1 ∨ 53 < p then 1 else 0
def eqE (p : Prop) [Decidable p] (e : Int) : Int := if p then 0 else e
def chkY (z : Sp) (n : Int) : Int :=
 seqE (rgE z.p) (seqE (eqE ((z.rows.length : Int) = n) 3) (seqE (sideE z.rows) (seqE (okE (bsR z.b && (mrB z.tx && (mrB z.sh && (mrB z.net && mrB z.py)))) 10) (seqE (tsumE z.tk z.tk.length) (eqE (z.b.c - z.tx - (sideV z.rows).a = z.net ∧ z.net - sumT z.tk z.tk.length = z.py) 5)))))
theorem side_mr {l : List Sh} (h : sideE l = 0) : -100000000000 ≤ (sideV l).a ∧ (sideV l).a ≤ 100000000000 := by
 have hv : sideV l = ⟨sumTo (fun i => (l.getD i sh0).a) l.length, sumTo (fun i => (l.getD i sh0).b) l.length⟩ := by unfold sideV; rw [if_pos h]
 rw [hv]
 unfold sideE okE at h
 cases ha : (List.range l.length).all (totAt l)
 ·
  rw [ha] at h; cases h
 rw [List.all_eq_true] at ha
 rcases hl : l.length with _ | k
 ·
  simp [sumTo]
 ·
  have := ha k (by rw [List.mem_range]; omega)
  unfold totAt at this
  simp only [Bool.and_eq_true] at this
  exact mr_iff.1 this.1.2
theorem tsum_mr {l : List Tk} {n : Nat} (h : tsumE l n = 0) : -100000000000 ≤ sumT l n ∧ sumT l n ≤ 100000000000 := by
 rcases n with _ | k
 ·
  simp [sumT]
 ·
  have := firstNZ_all _ _ h k (by omega)
  try dsimp only at this
  unfold okE at this
  cases ho : okO Ao9 (sumT l k) (l.getD k tk0).ta
  ·
   rw [ho] at this; cases this
  ·
   exact mr_iff.1 (okO_yes ho).2.2
theorem ychk_c (z : Sp) (A B : Option Addr) (n c m d : Nat) (k : Int) (w : World) (hr : Sh9 w A n z.rows) (ht : TkSl w B m z.tk) (re : Int) (he : Hid (re = chkY z k)) :
  Calls prog 89 #[.agg #[.int .i64 z.p, .int .i64 z.b.c, .int .i64 z.b.t, .int .i64 z.b.s, .int .i64 z.tx, .int .i64 z.sh, .slice A n c, .int .i64 z.net, .slice B m d, .int .i64 z.py], .int .i64 k] w fun e w' => e = .returned (.int .i64 re) ∧ Below w.heap.size w w' := by
 have HF0 := hid (Fr.start w)
 obtain ⟨rows, hrows⟩ : ∃ l, l = z.rows := ⟨_, rfl⟩
 obtain ⟨tk, htk⟩ : ∃ l, l = z.tk := ⟨_, rfl⟩
 have HN : Hid (n = rows.length) := hr.1.trans (by rw [hrows])
 have HM : Hid (m = tk.length) := ht.1.trans (by rw [htk])
 have hn9 := hr.2.1
 have hm9 := ht.2.1
 obtain ⟨E1, hE1⟩ : ∃ E, E = rgE z.p := ⟨_, rfl⟩
 obtain ⟨E2, hE2⟩ : ∃ E, E = eqE ((n : Int) = k) 3 := ⟨_, rfl⟩
 obtain ⟨E3, hE3⟩ : ∃ E, E = sideE rows := ⟨_, rfl⟩
 obtain ⟨V3, hV3⟩ : ∃ V, V = sideV rows := ⟨_, rfl⟩
 have K3 := hid (fun W (h : Sh9 W A n rows) => semp_c rows A n c W h E3 V3 hE3 hV3)
 obtain ⟨b4, hb4⟩ : ∃ b, b = bsR z.b := ⟨_, rfl⟩
 obtain ⟨b5, hb5⟩ : ∃ b, b = (mrB z.tx && (mrB z.sh && (mrB z.net && mrB z.py))) := ⟨_, rfl⟩
 have K4 := hid (fun W => bright_c z.b W)
 obtain ⟨E6, V6, hE6, hV6, hV60⟩ := ev_ex (tsumE tk m) (sumT tk m)
 have K6 := hid (fun W (h : TkSl W B m tk) => asum_g B m d tk W h E6 V6 hE6 hV6 hV60)
 obtain ⟨E7, hE7⟩ : ∃ E, E = eqE (z.b.c - z.tx - V3.a = z.net ∧ z.net - V6 = z.py) 5 := ⟨_, rfl⟩
 have HV3 : Hid (E3 = 0 → -100000000000 ≤ V3.a ∧ V3.a ≤ 100000000000) := fun h => by rw [hV3]; exact side_mr (by rw [← hE3]; exact h)
 have HV6 : Hid (E6 = 0 → -100000000000 ≤ V6 ∧ V6 ≤ 100000000000) := fun h => by rw [hV6 h]; exact tsum_mr (by rw [← hE6.out]; exact h)
 have H1 : Hid (re = seqE E1 (seqE E2 (seqE E3 (seqE (okE (b4 && b5) 10) (seqE E6 E7))))) := he.out.trans (by
  unfold chkY
  rw [← hrows, ← htk, ← hE1, ← hE3, ← hV3, ← hb4, ← hb5, ← HN.out, ← HM.out, ← hE2, ← hE6.out]
  unfold seqE
  by_cases h6 : E6 = 0
  ·
   rw [if_pos h6, hE7, ← hV6 h6, if_pos h6]
  ·
   rw [if_neg h6, if_neg h6])
 have KR := hid (fun (g : Nat) (W : World) (h : Blk W g 2 #[.int .i64 z.tx, .int .i64 z.sh, .int .i64 z.net, .int .i64 z.py]) => right4 g 0 4 z.tx z.sh z.net z.py W (h.cell 0) (h.cell 1) (h.cell 2) (h.cell 3))
 have HRW := hid (show Sh9 w A n rows by rw [hrows]; exact hr)
 have HTK := hid (show TkSl w B m tk by rw [htk]; exact ht)
 have HX1 := hid hE1
 have HX2 := hid hE2
 have HX4 := hid hb4
 have HX5 := hid hb5
 have HX7 := hid hE7
 rw [← hb4] at K4
 rw [← hb5] at KR
 have HXB : Hid (b4 = true → -100000000000 ≤ z.b.c ∧ z.b.c ≤ 100000000000) := fun h => by
  rw [hb4] at h
  unfold bsR at h
  simp only [Bool.and_eq_true] at h
  exact mr_iff.1 (by first | exact h.1 | exact h.1.1)
 have HXM : Hid (b5 = true → (-100000000000 ≤ z.tx ∧ z.tx ≤ 100000000000) ∧ (-100000000000 ≤ z.net ∧ z.net ≤ 100000000000)) := fun h => by
  rw [hb5] at h
  simp only [Bool.and_eq_true] at h
  exact ⟨mr_iff.1 h.1, mr_iff.1 h.2.2.1⟩
 clear hr ht hE1 hE2 hE3 hV3 hb4 hb5 hE6 hV6 hV60 hE7 hrows htk he
 obtain ⟨p, ⟨bc, bt, bs⟩, tx, sh, _, net, _, py⟩ := z
 obtain ⟨va, vb⟩ := V3
 dsimp only at K3 K4 KR HX1 HX2 HX4 HX5 HX7 HXB HXM HV3
 dsimp only
 have HF1 := al9 ((HF0.out.al 45 #[.int .i64 p, .int .i64 bc, .int .i64 bt, .int .i64 bs, .int .i64 tx, .int .i64 sh, .slice A n c, .int .i64 net, .slice B m d, .int .i64 py]))
 clear HF0
 go_enter func89, ntmps89
 obtain ⟨c0_0, c0_1, c0_2, c0_3, c0_4, c0_5, c0_6, c0_7, c0_8, c0_9⟩ := (HF1.out.b 0 rfl).q10
 by_cases hp : p < 1 ∨ 53 < p
 case pos =>
  have HE : Hid (re = 1) := H1.out.trans (by rw [HX1.out]; unfold rgE; rw [if_pos hp]; rfl)
  by_cases hp1 : p < 1
  case pos =>
   have t1 : decide (p < 1) = true := by simpa using hp1
   clear hp
   go_wp2_with fail
   refine bodyPost_ret (v := .int .i64 1) (by simp [results, results89, go_sem]) rfl ⟨by rw [HE.out], HF1.out.bl⟩
  case neg =>
   have hp2 : 53 < p := by omega
   have t1 : decide (p < 1) = false := by simpa using hp1
   have t2 : decide (53 < p) = true := by simpa using hp2
   clear hp
   go_wp2_with fail
   refine bodyPost_ret (v := .int .i64 1) (by simp [results, results89, go_sem]) rfl ⟨by rw [HE.out], HF1.out.bl⟩
 have HP : Hid (1 ≤ p ∧ p ≤ 53) := ⟨by omega, by omega⟩
 have t1 : decide (p < 1) = false := by simp; omega
 have t2 : decide (53 < p) = false := by simp; omega
 have H2 := hid (H1.out.trans (sE9 (by rw [HX1.out]; unfold rgE; rw [if_neg hp])))
 have hp1 : ¬ p < 1 := by omega
 have hp2 : ¬ 53 < p := by omega
 clear hp H1 HX1
 by_cases hk : (n : Int) = k
 case neg =>
  have tk2 : ((n : Int) != k) = true := by simpa using hk
  have HE : Hid (re = 3) := H2.out.trans (by rw [HX2.out]; unfold eqE; rw [if_neg hk]; rfl)
  clear hk
  go_wp2_with fail
  refine bodyPost_ret (v := .int .i64 3) (by simp [results, results89, go_sem]) rfl ⟨by rw [HE.out], HF1.out.bl⟩
 have H3 := hid (H2.out.trans (sE9 (by rw [HX2.out]; unfold eqE; rw [if_pos hk])))
 subst hk
 clear HX2 H2
 go_wp2_with fail
 refine (K3.out _ (HRW.out.below HF1.out.bl)).mono ?_
 rintro e W1 ⟨rfl, hb⟩
 clear c0_0 c0_1 c0_2 c0_3 c0_4 c0_5 c0_6 c0_7 c0_8 c0_9
 have HF2 := hid (HF1.out.ca hb)
 clear hb HF1
 by_cases h0 : E3 = 0
 case neg =>
  have tr : (E3 != 0) = true := by simpa using h0
  have HE : Hid (re = E3) := H3.out.trans (sN9 h0)
  have HN0 : Hid (re ≠ 0) := by unfold Hid; rw [HE.out]; exact h0
  clear h0
  go_wp2_with fail
  refine bodyPost_ret (v := .int .i64 E3) (by simp [results, results89, go_sem]) rfl ⟨by rw [HE.out], HF2.out.bl⟩
 have H4 := hid (H3.out.trans (sE9 h0))
 subst h0
 have HV3b := hid (HV3.out rfl)
 clear HV3 H3 K3
 obtain ⟨c0_0, c0_1, c0_2, c0_3, c0_4, c0_5, c0_6, c0_7, c0_8, c0_9⟩ := (HF2.out.b 0 rfl).q10
 go_wp2_with fail
 refine (K4.out _).mono ?_
 rintro e W2 ⟨rfl, hb⟩
 clear c0_0 c0_1 c0_2 c0_3 c0_4 c0_5 c0_6 c0_7 c0_8 c0_9
 have HF3 := hid (HF2.out.ca hb)
 clear hb HF2
 cases hb4 : b4
 case false =>
  have HE : Hid (re = 10) := H4.out.trans (by rw [hb4]; rfl)
  subst hb4
  go_wp2_with fail
  refine bodyPost_ret (v := .int .i64 10) (by simp [results, results89, go_sem]) rfl ⟨by rw [HE.out], HF3.out.bl⟩
 subst hb4
 have HM4 := hid (HXB.out rfl)
 obtain ⟨c0_0, c0_1, c0_2, c0_3, c0_4, c0_5, c0_6, c0_7, c0_8, c0_9⟩ := (HF3.out.b 0 rfl).q10
 have HF4 := al9 ((HF3.out.al 2 #[.int .i64 tx, .int .i64 sh, .int .i64 net, .int .i64 py]))
 clear HF3
 go_wp2_with fail
 refine (KR.out _ _ (HF4.out.b 1 rfl)).mono ?_
 rintro e W3 ⟨rfl, rfl⟩
 have HF5 := hid (HF4.out.cut 1)
 clear HF4
 cases hb5 : b5
 case false =>
  have HE : Hid (re = 10) := H4.out.trans (by rw [hb5]; rfl)
  subst hb5
  go_wp2_with fail
  refine bodyPost_ret (v := .int .i64 10) (by simp [results, results89, go_sem]) rfl ⟨by rw [HE.out], HF5.out.bl⟩
 have H5 := hid (H4.out.trans (sE9 (by rw [hb5]; rfl)))
 subst hb5
 have HM5 := hid (HXM.out rfl)
 clear H4 HXM HXB K4 KR HX4 HX5
 clear c0_0 c0_1 c0_2 c0_3 c0_4 c0_5 c0_6 c0_7 c0_8 c0_9
 obtain ⟨c0_0, c0_1, c0_2, c0_3, c0_4, c0_5, c0_6, c0_7, c0_8, c0_9⟩ := (HF5.out.b 0 rfl).q10
 go_wp2_with fail
 refine (K6.out _ (HTK.out.below HF5.out.bl)).mono ?_
 rintro e W4 ⟨rfl, hb⟩
 clear c0_0 c0_1 c0_2 c0_3 c0_4 c0_5 c0_6 c0_7 c0_8 c0_9
 have HF6 := hid (HF5.out.ca hb)
 clear hb HF5
 by_cases h0 : E6 = 0
 case neg =>
  have tr : (E6 != 0) = true := by simpa using h0
  have HE : Hid (re = E6) := H5.out.trans (sN9 h0)
  have HN0 : Hid (re ≠ 0) := by unfold Hid; rw [HE.out]; exact h0
  clear h0
  go_wp2_with fail
  refine bodyPost_ret (v := .int .i64 E6) (by simp [results, results89, go_sem]) rfl ⟨by rw [HE.out], HF6.out.bl⟩
 have H6 := hid (H5.out.trans (sE9 h0))
 subst h0
 have HV6b := hid (HV6.out rfl)
 clear HV6 H5 K6
 obtain ⟨v1, v2⟩ := HV3b.out
 obtain ⟨v3, v4⟩ := HV6b.out
 obtain ⟨v5, v6⟩ := HM4.out
 obtain ⟨⟨v7, v8⟩, v9, v10⟩ := HM5.out
 try dsimp only at v1 v2
 have q1 : IntKind.i64.wrap (bc - tx) = bc - tx := by rw [IntKind.wrap_i64]; omega
 have q2 : IntKind.i64.wrap (bc - tx - va) = bc - tx - va := by rw [IntKind.wrap_i64]; omega
 have q3 : IntKind.i64.wrap (net - V6) = net - V6 := by rw [IntKind.wrap_i64]; omega
 clear v1 v2 v3 v4 v5 v6 v7 v8 v9 v10
 obtain ⟨c0_0, c0_1, c0_2, c0_3, c0_4, c0_5, c0_6, c0_7, c0_8, c0_9⟩ := (HF6.out.b 0 rfl).q10
 by_cases h7 : bc - tx - va = net
 case neg =>
  have t7 : (bc - tx - va != net) = true := by simpa using h7
  have HE : Hid (re = 5) := H6.out.trans (by rw [HX7.out]; unfold eqE; rw [if_neg (fun h => h7 h.1)])
  clear h7
  go_wp2_with fail
  refine bodyPost_ret (v := .int .i64 5) (by simp [results, results89, go_sem]) rfl ⟨by rw [HE.out], HF6.out.bl⟩
 have t7 : (bc - tx - va != net) = false := by simpa using h7
 by_cases h8 : net - V6 = py
 case neg =>
  have t8 : (net - V6 != py) = true := by simpa using h8
  have HE : Hid (re = 5) := H6.out.trans (by rw [HX7.out]; unfold eqE; rw [if_neg (fun h => h8 h.2)])
  clear h7 h8
  go_wp2_with fail
  refine bodyPost_ret (v := .int .i64 5) (by simp [results, results89, go_sem]) rfl ⟨by rw [HE.out], HF6.out.bl⟩
 have t8 : (net - V6 != py) = false := by simpa using h8
 have HE : Hid (re = 0) := H6.out.trans (by rw [HX7.out]; unfold eqE; rw [if_pos ⟨h7, h8⟩])
 clear h7 h8
 go_wp2_with fail
 refine bodyPost_ret (v := .int .i64 0) (by simp [results, results89, go_sem]) rfl ⟨by rw [HE.out], HF6.out.bl⟩
def CloneV (E : TypeId) (K n : Nat) (news : List Value) (w : World) (e : Ending) (w' : World) : Prop := (∃ A c, e = .returned (.slice A n c) ∧ w'.ownsRow w.heap.size E K (.slice A n c) n news) ∧ Below w.heap.size w w'
def CloneB (base : Nat) (E : TypeId) (K n : Nat) (news : List Value) (w : World) (e : Ending) (w' : World) : Prop := (∃ A c, e = .returned (.slice A n c) ∧ w'.ownsRow base E K (.slice A n c) n news) ∧ Below w.heap.size w w'
theorem CloneV.b {E : TypeId} {K n : Nat} {news : List Value} {w0 w w' : World} {e : Ending} (h : CloneV E K n news w e w') (hb : Below w0.heap.size w0 w) : CloneB w0.heap.size E K n news w e w' := by
 obtain ⟨⟨A, c, h1, h2⟩, h3⟩ := h
 exact ⟨⟨A, c, h1, oM9 h2 hb.size⟩, h3⟩
theorem tkC_len' (z : Tk) : (tkC z).length = 6 := rfl
theorem sh_row {w : World} {A : Option Addr} {n : Nat} {l : List Sh} (h : Sh9 w A n l) : RowSl shC 2 sh0 w A n l := by
 refine ⟨h.1, h.2.1, fun h0 => ?_⟩
 obtain ⟨b, off, hA, hlt, hat⟩ := h.2.2 h0
 refine ⟨b, off, hA, hlt, fun k hk j u hu => ?_⟩
 obtain ⟨c0, c1⟩ := hat k (by rw [← h.1]; exact hk)
 rcases j with _ | _ | j
 ·
  simp only [shC, List.getElem?_cons_zero, Option.some.injEq] at hu
  subst hu; exact c0
 ·
  simp only [shC, List.getElem?_cons_succ, List.getElem?_cons_zero, Option.some.injEq] at hu
  subst hu; exact c1
 ·
  simp [shC] at hu
theorem row_sh {w : World} {A : Option Addr} {n : Nat} {l : List Sh} (h : RowSl shC 2 sh0 w A n l) : Sh9 w A n l := by
 refine ⟨h.1, h.2.1, fun h0 => ?_⟩
 obtain ⟨b, off, hA, hlt, hat⟩ := h.2.2 h0
 exact ⟨b, off, hA, hlt, fun k hk => ⟨hat k (by rw [h.1]; exact hk) 0 _ rfl, hat k (by rw [h.1]; exact hk) 1 _ rfl⟩⟩
theorem all_one {α : Type} {f : α → List Value} (hf : ∀ x, ∀ u ∈ f x, u.oneCell' = true) (l : List α) : ∀ u ∈ l.flatMap f, u.oneCell' = true := by
 intro u hu
 obtain ⟨x, _, hx⟩ := List.mem_flatMap.1 hu
 exact hf x u hx
theorem sh_one (x : Sh) : ∀ u ∈ shC x, u.oneCell' = true := by intro u hu; simp [shC] at hu; rcases hu with rfl | rfl <;> rfl
theorem tk_one (x : Tk) : ∀ u ∈ tkC x, u.oneCell' = true := by intro u hu; simp [tkC] at hu; rcases hu with rfl | rfl | rfl | rfl | rfl | rfl <;> rfl
theorem el_one (x : El) : ∀ u ∈ elC x, u.oneCell' = true := by intro u hu; simp [elC] at hu; rcases hu with rfl | rfl | rfl <;> rfl
theorem clone_sr (A : Option Addr) (n c : Nat) (l : List Sh) (w : World) (h : RowSl shC 2 sh0 w A n l) (hn : n ≤ 1000000) :
  Calls prog 62 #[.slice A n c] w (CloneV 79 2 n (l.flatMap shC) w) := by
 have hq := fun W => Lib.run_eql_slice_nil (P := prog) W 71 79 A n c 0 0 underlying71
 have h := h.src sl9
 have h1 := all_one sh_one l
 generalize l.flatMap shC = news at *
 cases hA : A with
 | none =>
  subst hA
  obtain ⟨h2, h3⟩ := h
  have h0 : n = 0 := by
   rcases Nat.eq_zero_or_pos n with h0 | h0
   ·
    exact h0
   ·
    obtain ⟨b, off, h, _⟩ := h3 h0
    cases h
  subst h0
  have hl : news = [] := List.eq_nil_of_length_eq_zero (by simpa using h2)
  subst hl
  clear h3 h2 h1
  go_enter func62, ntmps62
  go_wp2
  go_ret
  exact ⟨⟨none, 0, rfl, World.ownsRow_nil _ _ _ _⟩, Below.refl _ _⟩
 | some ad =>
  subst hA
  have HS := hid (h.below (below1 w (.cells #[] 79)))
  have H1 := hid h1
  clear h h1
  have HO := hid (World.ownsRow_lit (e := 79) (size := 2) (base := w.heap.size) w #[] 0 (Nat.le_refl _) (by decide) rfl)
  go_enter func62, ntmps62
  go_wp2_with (at_builtin; refine wn9 _ rfl _ _ 71 rfl 79 _ 2 16 underlying71 info_share rfl (by decide) rfl HO.out _ _ _ _ rfl HS.out H1.out (by omega) (by omega) (by simp) ?_; intro v' w1 ho hg)
  obtain ⟨A', c', rfl⟩ := oL9 ho
  refine bodyPost_ret (v := .slice A' n c') (by simp [results, results62, go_sem]) rfl ?_
  refine ⟨⟨A', c', rfl, ?_⟩, (below1 _ _).grown hg (by simp) (fun k hk => by injection hk with hk; exact Nat.le_of_eq hk)⟩
  simpa using ho
theorem clone_ss (A : Option Addr) (n c : Nat) (l : List Sh) (w : World) (h : RowSl shC 2 sh0 w A n l) (hn : n ≤ 1000000) :
  Calls prog 77 #[.slice A n c] w (CloneV 79 2 n (l.flatMap shC) w) := by
 have hq := fun W => Lib.run_eql_slice_nil (P := prog) W 42 79 A n c 0 0 underlying42
 have h := h.src sl9
 have h1 := all_one sh_one l
 generalize l.flatMap shC = news at *
 cases hA : A with
 | none =>
  subst hA
  obtain ⟨h2, h3⟩ := h
  have h0 : n = 0 := by
   rcases Nat.eq_zero_or_pos n with h0 | h0
   ·
    exact h0
   ·
    obtain ⟨b, off, h, _⟩ := h3 h0
    cases h
  subst h0
  have hl : news = [] := List.eq_nil_of_length_eq_zero (by simpa using h2)
  subst hl
  clear h3 h2 h1
  go_enter func77, ntmps77
  go_wp2
  go_ret
  exact ⟨⟨none, 0, rfl, World.ownsRow_nil _ _ _ _⟩, Below.refl _ _⟩
 | some ad =>
  subst hA
  have HS := hid (h.below (below1 w (.cells #[] 79)))
  have H1 := hid h1
  clear h h1
  have HO := hid (World.ownsRow_lit (e := 79) (size := 2) (base := w.heap.size) w #[] 0 (Nat.le_refl _) (by decide) rfl)
  go_enter func77, ntmps77
  go_wp2_with (at_builtin; refine wn9 _ rfl _ _ 42 rfl 79 _ 2 16 underlying42 info_share rfl (by decide) rfl HO.out _ _ _ _ rfl HS.out H1.out (by omega) (by omega) (by simp) ?_; intro v' w1 ho hg)
  obtain ⟨A', c', rfl⟩ := oL9 ho
  refine bodyPost_ret (v := .slice A' n c') (by simp [results, results77, go_sem]) rfl ?_
  refine ⟨⟨A', c', rfl, ?_⟩, (below1 _ _).grown hg (by simp) (fun k hk => by injection hk with hk; exact Nat.le_of_eq hk)⟩
  simpa using ho
theorem clone_tk (A : Option Addr) (n c : Nat) (l : List Tk) (w : World) (h : RowSl tkC 6 tk0 w A n l) (hn : n ≤ 1000000) :
  Calls prog 78 #[.slice A n c] w (CloneV 116 6 n (l.flatMap tkC) w) := by
 have hq := fun W => Lib.run_eql_slice_nil (P := prog) W 43 116 A n c 0 0 underlying43
 have h := h.src tkC_len'
 have h1 := all_one tk_one l
 generalize l.flatMap tkC = news at *
 cases hA : A with
 | none =>
  subst hA
  obtain ⟨h2, h3⟩ := h
  have h0 : n = 0 := by
   rcases Nat.eq_zero_or_pos n with h0 | h0
   ·
    exact h0
   ·
    obtain ⟨b, off, h, _⟩ := h3 h0
    cases h
  subst h0
  have hl : news = [] := List.eq_nil_of_length_eq_zero (by simpa using h2)
  subst hl
  clear h3 h2 h1
  go_enter func78, ntmps78
  go_wp2
  go_ret
  exact ⟨⟨none, 0, rfl, World.ownsRow_nil _ _ _ _⟩, Below.refl _ _⟩
 | some ad =>
  subst hA
  have HS := hid (h.below (below1 w (.cells #[] 116)))
  have H1 := hid h1
  clear h h1
  have HO := hid (World.ownsRow_lit (e := 116) (size := 6) (base := w.heap.size) w #[] 0 (Nat.le_refl _) (by decide) rfl)
  go_enter func78, ntmps78
  go_wp2_with (at_builtin; refine wn9 _ rfl _ _ 43 rfl 116 _ 6 48 underlying43 info_taken rfl (by decide) rfl HO.out _ _ _ _ rfl HS.out H1.out (by omega) (by omega) (by simp) ?_; intro v' w1 ho hg)
  obtain ⟨A', c', rfl⟩ := oL9 ho
  refine bodyPost_ret (v := .slice A' n c') (by simp [results, results78, go_sem]) rfl ?_
  refine ⟨⟨A', c', rfl, ?_⟩, (below1 _ _).grown hg (by simp) (fun k hk => by injection hk with hk; exact Nat.le_of_eq hk)⟩
  simpa using ho
theorem clone_el (A : Option Addr) (n c : Nat) (l : List El) (w : World) (h : RowSl elC 3 el0 w A n l) (hn : n ≤ 1000000) :
  Calls prog 47 #[.slice A n c] w (CloneV 98 3 n (l.flatMap elC) w) := by
 have hq := fun W => Lib.run_eql_slice_nil (P := prog) W 35 98 A n c 0 0 underlying35
 have h := h.src elC_len
 have h1 := all_one el_one l
 generalize l.flatMap elC = news at *
 cases hA : A with
 | none =>
  subst hA
  obtain ⟨h2, h3⟩ := h
  have h0 : n = 0 := by
   rcases Nat.eq_zero_or_pos n with h0 | h0
   ·
    exact h0
   ·
    obtain ⟨b, off, h, _⟩ := h3 h0
    cases h
  subst h0
  have hl : news = [] := List.eq_nil_of_length_eq_zero (by simpa using h2)
  subst hl
  clear h3 h2 h1
  go_enter func47, ntmps47
  go_wp2
  go_ret
  exact ⟨⟨none, 0, rfl, World.ownsRow_nil _ _ _ _⟩, Below.refl _ _⟩
 | some ad =>
  subst hA
  have HS := hid (h.below (below1 w (.cells #[] 98)))
  have H1 := hid h1
  clear h h1
  have HO := hid (World.ownsRow_lit (e := 98) (size := 3) (base := w.heap.size) w #[] 0 (Nat.le_refl _) (by decide) rfl)
  go_enter func47, ntmps47
  go_wp2_with (at_builtin; refine wn9 _ rfl _ _ 35 rfl 98 _ 3 32 underlying35 info_el rfl (by decide) rfl HO.out _ _ _ _ rfl HS.out H1.out (by omega) (by omega) (by simp) ?_; intro v' w1 ho hg)
  obtain ⟨A', c', rfl⟩ := oL9 ho
  refine bodyPost_ret (v := .slice A' n c') (by simp [results, results47, go_sem]) rfl ?_
  refine ⟨⟨A', c', rfl, ?_⟩, (below1 _ _).grown hg (by simp) (fun k hk => by injection hk with hk; exact Nat.le_of_eq hk)⟩
  simpa using ho
theorem tb_of {t : Tb} (h : tbE t = 0) : TbOK t.sch t.cts t.kds t.lim t.rnd ∧ t.sch.length ≤ 8 ∧ t.cts.length ≤ 6 ∧ t.kds.length ≤ 12 ∧ 1 ≤ t.kds.length := by
 unfold tbE at h
 have h1 : rateB t.lim = true := by
  cases hh : rateB t.lim with
  | true => rfl
  | false => rw [if_pos hh] at h; cases h
 rw [if_neg (by rw [h1]; decide)] at h
 have h2 : modeB t.rnd = true := by
  cases hh : modeB t.rnd with
  | true => rfl
  | false => rw [if_pos hh] at h; cases h
 rw [if_neg (by rw [h2]; decide)] at h
 have h3 : scsE t.sch = 0 := by
  by_cases e : scsE t.sch = 0
  ·
   exact e
  ·
   rw [if_pos e] at h; exact absurd h e
 rw [if_neg (fun e => e h3)] at h
 have h4 : ctsE t.cts = 0 := by
  by_cases e : ctsE t.cts = 0
  ·
   exact e
  ·
   rw [if_pos e] at h; exact absurd h e
 rw [if_neg (fun e => e h4)] at h
 unfold scsE at h3
 by_cases e3 : t.sch.length = 0 ∨ 8 < t.sch.length
 ·
  rw [if_pos e3] at h3; cases h3
 rw [if_neg e3] at h3
 unfold ctsE at h4
 by_cases e4 : 6 < t.cts.length
 ·
  rw [if_pos e4] at h4; cases h4
 rw [if_neg e4] at h4
 unfold kdsE at h
 by_cases e5 : t.kds.length = 0 ∨ 12 < t.kds.length
 ·
  rw [if_pos e5] at h; cases h
 rw [if_neg e5] at h
 have g3 := firstNZ_all _ _ h3
 have g4 := firstNZ_all _ _ h4
 have g5 := firstNZ_all _ _ h
 refine ⟨⟨h1, h2, by omega, fun k hk => ?_, fun k hk => ?_, fun k hk => ?_⟩, by omega, by omega, by omega, by omega⟩
 ·
  have g := g3 k hk
  unfold scsF scE1 at g
  generalize t.sch.getD k [] = x at *
  by_cases e : bE9 x = 0
  ·
   rw [if_neg (fun h => h e)] at g
   refine ⟨e, fun i hi => ?_⟩
   by_cases e2 : (x.getD i bd0).e = 0
   ·
    exact e2
   ·
    rw [if_pos ⟨i, hi, e2⟩] at g; cases g
  ·
   rw [if_pos e] at g; exact absurd g e
 ·
  have g := g4 k hk
  unfold ctsF ctE at g
  generalize t.cts.getD k ct0 = x at *
  by_cases a1 : nameB x.nm = false
  ·
   rw [if_pos a1] at g; cases g
  rw [if_neg a1] at g
  by_cases a2 : 0 ≤ nmX Ct.nm (t.cts.take k) x.nm
  ·
   rw [if_pos a2] at g; cases g
  rw [if_neg a2] at g
  by_cases a3 : x.base ≠ 1 ∧ x.base ≠ 2
  ·
   rw [if_pos a3] at g; cases g
  rw [if_neg a3] at g
  by_cases a4 : modeB x.rd = false
  ·
   rw [if_pos a4] at g; cases g
  rw [if_neg a4] at g
  by_cases a5 : x.pc < 0
  ·
   rw [if_pos a5] at g; cases g
  rw [if_neg a5] at g
  by_cases a6 : 100000000000 < x.pc
  ·
   rw [if_pos a6] at g; cases g
  rw [if_neg a6] at g
  by_cases a7 : x.yc < 0
  ·
   rw [if_pos a7] at g; cases g
  rw [if_neg a7] at g
  by_cases a8 : 100000000000 < x.yc
  ·
   rw [if_pos a8] at g; cases g
  rw [if_neg a8] at g
  exact ⟨by simpa using a1, by omega, by simpa using a4, by omega, by omega, g⟩
 ·
  have g := g5 k hk
  unfold kdsF kdE1 at g
  generalize t.kds.getD k kd0 = x at *
  by_cases a1 : nameB x.nm = false
  ·
   rw [if_pos a1] at g; cases g
  rw [if_neg a1] at g
  by_cases a2 : 0 ≤ nmX Kd.nm (t.kds.take k) x.nm
  ·
   rw [if_pos a2] at g; cases g
  rw [if_neg a2] at g
  by_cases a3 : decide (-1 ≤ x.c ∧ x.c ≤ 1) = false
  ·
   rw [if_pos a3] at g; cases g
  rw [if_neg a3] at g
  by_cases a4 : decide (-1 ≤ x.t ∧ x.t ≤ 1) = false
  ·
   rw [if_pos a4] at g; cases g
  rw [if_neg a4] at g
  by_cases a5 : decide (-1 ≤ x.s ∧ x.s ≤ 1) = false
  ·
   rw [if_pos a5] at g; cases g
  exact ⟨by simpa using a1, by simpa using a3, by simpa using a4, by simpa using a5⟩
def maxTo (acc : Int) (l : List Bd) : Nat → Int
 | 0 => acc
 | k + 1 => max (maxTo acc l k) (l.getD k bd0).r
def maxS (lim : Int) (sch : List (List Bd)) : Nat → Int
 | 0 => lim
 | i + 1 => maxTo (maxS lim sch i) (sch.getD i []) (sch.getD i []).length
def cutC (cts : List Ct) : Nat → Int
 | 0 => 0
 | i + 1 => cutC cts i + maxTo 0 (cts.getD i ct0).bands (cts.getD i ct0).bands.length
def keptI (t : Tb) : Int := 10000 - maxS t.lim t.sch t.sch.length - cutC t.cts t.cts.length
def keepE (t : Tb) : Int := if tbE t ≠ 0 then tbE t else if keptI t * 20 < 10000 then 100 else 0
theorem maxTo_bd {acc : Int} {l : List Bd} (ha : 0 ≤ acc ∧ acc ≤ 10000) : ∀ n, (∀ k, k < n → 0 ≤ (l.getD k bd0).r ∧ (l.getD k bd0).r ≤ 10000) → 0 ≤ maxTo acc l n ∧ maxTo acc l n ≤ 10000
 | 0, _ => ha
 | n + 1, h => by
  have h1 := maxTo_bd ha n (fun k hk => h k (by omega))
  have h2 := h n (by omega)
  rw [maxTo]; omega
theorem maxS_bd {lim : Int} {sch : List (List Bd)} (hl : 0 ≤ lim ∧ lim ≤ 10000) : ∀ n, (∀ i, i < n → bE9 (sch.getD i []) = 0) → 0 ≤ maxS lim sch n ∧ maxS lim sch n ≤ 10000
 | 0, _ => hl
 | n + 1, h => by
  have h1 := maxS_bd hl n (fun i hi => h i (by omega))
  exact maxTo_bd h1 _ (fun k hk => (goodB _ (h n (by omega))).r k hk)
theorem cutC_bd {cts : List Ct} : ∀ n, (∀ i, i < n → bE9 (cts.getD i ct0).bands = 0) → 0 ≤ cutC cts n ∧ cutC cts n ≤ n * 10000
 | 0, _ => by simp [cutC]
 | n + 1, h => by
  have h1 := cutC_bd n (fun i hi => h i (by omega))
  have h2 := maxTo_bd (acc := 0) (by decide) _ (fun k hk => (goodB _ (h n (by omega))).r k hk)
  rw [cutC]; push_cast; omega
def elB (kds : List Kd) (z : El) : Bs := ⟨elV z.a z.u * (kdX kds z.k).c, elV z.a z.u * (kdX kds z.k).t, elV z.a z.u * (kdX kds z.k).s⟩
def sumB (f : Nat → Bs) : Nat → Bs
 | 0 => bs0
 | k + 1 => bothV Ao9 (sumB f k) (f k)
def sumBE (f : Nat → Bs) (n : Nat) : Int := fz9 (fun k => bothE Ao9 (sumB f k) (f k)) n
def ofF (kds : List Kd) (L : List El) (k : Nat) : Bs := elB kds (L.getD k el0)
def ofE (kds : List Kd) (L : List El) : Int := if chkA kds L L.length ≠ 0 then chkA kds L L.length else sumBE (ofF kds L) L.length
def ofV (kds : List Kd) (L : List El) : Bs := if ofE kds L = 0 then sumB (ofF kds L) L.length else bs0
def yearE (l : List Bs) : Int := sumBE (fun k => l.getD k bs0) l.length
def yearV (l : List Bs) : Bs := if yearE l = 0 then sumB (fun k => l.getD k bs0) l.length else bs0
theorem kd_range {kds : List Kd} (h : ∀ k, k < kds.length → KdOK (kds.getD k kd0)) (nm : ByteArray) : (-1 ≤ (kdX kds nm).c ∧ (kdX kds nm).c ≤ 1) ∧ (-1 ≤ (kdX kds nm).t ∧ (kdX kds nm).t ≤ 1) ∧ (-1 ≤ (kdX kds nm).s ∧ (kdX kds nm).s ≤ 1) := by
 unfold kdX
 cases hf : kds.find? (fun x => decide (x.nm = nm)) with
 | none => exact ⟨by decide, by decide, by decide⟩
 | some x =>
  have hm := List.mem_of_find?_eq_some hf
  obtain ⟨k, hk, rfl⟩ := List.getElem_of_mem hm
  have := h k hk
  rw [getD_get hk] at this
  exact ⟨this.c, this.t, this.s⟩
theorem mul_one_bd {v k : Int} (hv : -100000000000 ≤ v ∧ v ≤ 100000000000) (hk : -1 ≤ k ∧ k ≤ 1) : -100000000000 ≤ v * k ∧ v * k ≤ 100000000000 := by
 rcases (by omega : k = -1 ∨ k = 0 ∨ k = 1) with rfl | rfl | rfl <;> omega
theorem elV_bd (a u : Int) : -100000000000 ≤ elV a u ∧ elV a u ≤ 100000000000 := by
 unfold elV
 by_cases h : elE a u = 0
 ·
  rw [if_pos h]
  unfold elE at h
  by_cases h1 : mrB a = false
  ·
   rw [if_pos h1] at h; cases h
  rw [if_neg h1] at h
  by_cases h2 : u < 0 ∨ 100000 < u
  ·
   rw [if_pos h2] at h; cases h
  rw [if_neg h2] at h
  by_cases h3 : mrB (ro9 (a * u) 100 4) = true
  ·
   exact mr_iff.1 h3
  ·
   rw [if_neg h3] at h; cases h
 ·
  rw [if_neg h]; omega
theorem bYear_c (l : List Bs) (A : Option Addr) (n c : Nat) (w : World) (hl : BsSl w A n l) (re : Int) (rv : Bs) (he : Hid (re = yearE l)) (hv : Hid (rv = yearV l)) :
  Calls prog 82 #[.slice A n c] w fun e w' => e = .returned (.tuple #[.agg #[.int .i64 rv.c, .int .i64 rv.t, .int .i64 rv.s], .int .i64 re]) ∧ Below w.heap.size w w' := by
 have HL := hid hl
 have HN : Hid (n = l.length) := hl.1
 have hn9 := hl.2.1
 have r0 := (Blk.mk w 41 #[.int .i64 0, .int .i64 0, .int .i64 0]).alloc (.cells #[.int .i64 0, .int .i64 0, .int .i64 0] 41)
 have u0 := Blk.mk (w.alloc (.cells #[.int .i64 0, .int .i64 0, .int .i64 0] 41)) 41 #[.int .i64 0, .int .i64 0, .int .i64 0]
 simp only [World.size_alloc] at u0
 have HR := hid r0
 have HU := hid u0
 have HB : Hid (Below w.heap.size w ((w.alloc (.cells #[.int .i64 0, .int .i64 0, .int .i64 0] 41)).alloc (.cells #[.int .i64 0, .int .i64 0, .int .i64 0] 41))) := bA (below1 w _) _
 have HST : Hid (∀ k, k < n → fz9 (fun k => bothE Ao9 (sumB (fun k => l.getD k bs0) k) (l.getD k bs0)) k = 0 → bothE Ao9 (sumB (fun k => l.getD k bs0) k) (l.getD k bs0) ≠ 0 → re = 10 ∧ rv = bs0) := fun k hk h0 h1 => by
  have e1 : yearE l = 10 := by
   unfold yearE sumBE
   rw [fS9 (fun k => bothE Ao9 (sumB (fun k => l.getD k bs0) k) (l.getD k bs0)) k _ h0 h1 (by have := HN.out; omega)]
   show bothE _ _ _ = 10
   unfold bothE at h1 ⊢
   split at h1
   ·
    exact absurd rfl h1
   ·
    rw [if_neg ‹_›]
  exact ⟨he.out.trans e1, hv.out.trans (by unfold yearV; rw [if_neg (by rw [e1]; decide)])⟩
 clear hl r0 u0
 go_enter func82, ntmps82
 go_wp2_with fail
 go_loopw [10, 6, 7] (fun i _ _ wr => ∃ (k : Nat) (b : Bs), k ≤ n ∧ i = .int .i64 k ∧ Hid (b = sumB (fun k => l.getD k bs0) k ∧ fz9 (fun k => bothE Ao9 (sumB (fun k => l.getD k bs0) k) (l.getD k bs0)) k = 0) ∧ Hid (Below w.heap.size w wr) ∧ Hid (Blk wr w.heap.size 41 #[.int .i64 0, .int .i64 0, .int .i64 0]) ∧ Hid (Blk wr (w.heap.size + 1) 41 (bsC b))) (fun i _ _ _ => n - (intOf i).toNat)
 case atStart => exact ⟨0, bs0, Nat.zero_le _, rfl, ⟨rfl, rfl⟩, HB, HR, HU⟩
 case round =>
  clear HB HR HU
  obtain ⟨k, b, hk', rfl, HS, HB, HR, HU⟩ := hrel
  have hlt := HU.out.lt
  by_cases hk : k < n
  case neg =>
   obtain rfl : n = k := by omega
   have HE : Hid (re = 0) := he.out.trans (by unfold yearE sumBE; rw [← HN.out]; exact HS.out.2)
   have HV : Hid (rv = b) := hv.out.trans (by unfold yearV; rw [if_pos (by unfold yearE sumBE; rw [← HN.out]; exact HS.out.2), ← HN.out]; exact HS.out.1.symm)
   obtain ⟨b1, b2, b3⟩ := b
   have hu := HU.out
   unfold bsC at hu
   obtain ⟨⟨u0, u1, u2⟩, _⟩ := hu.a3f
   obtain ⟨⟨c0, c1, c2⟩, f0, f1, f2⟩ := HR.out.a3f
   clear hk hk' hu
   go_wp2_with fail
   refine bodyPost_ret (v := .tuple #[.agg #[.int .i64 b1, .int .i64 b2, .int .i64 b3], .int .i64 0]) (by simp [results, results82, go_sem, c0, c1, c2]) rfl ⟨by rw [HE.out, HV.out], ?_⟩
   exact bS (bS (bS HB.out (Nat.le_refl _) _) (Nat.le_refl _) _) (Nat.le_refl _) _
  obtain ⟨bb, off, rfl, hblt, hat⟩ := (HL.out.below HB.out).2.2 (by omega)
  obtain ⟨d0, d1, d2⟩ := hat k hk
  obtain ⟨r2, hr2⟩ : ∃ r2, r2 = bothE Ao9 b (l.getD k bs0) := ⟨_, rfl⟩
  obtain ⟨v2, hv2⟩ : ∃ v2, v2 = bothV Ao9 b (l.getD k bs0) := ⟨_, rfl⟩
  have K := hid (fun W => bAdd_c b (l.getD k bs0) W r2 v2 hr2 hv2)
  have HSK : Hid (r2 ≠ 0 → re = 10 ∧ rv = bs0 ∧ r2 = 10) := fun h => by
   have e := HST.out k hk HS.out.2 (by rw [← HS.out.1, ← hr2]; exact h)
   refine ⟨e.1, e.2, ?_⟩
   rw [hr2] at h ⊢
   unfold bothE at h ⊢
   split at h
   ·
    exact absurd rfl h
   ·
    rw [if_neg ‹_›]
  have HNX : Hid (r2 = 0 → v2 = sumB (fun k => l.getD k bs0) (k + 1) ∧ fz9 (fun k => bothE Ao9 (sumB (fun k => l.getD k bs0) k) (l.getD k bs0)) (k + 1) = 0) := fun h => by
   refine ⟨?_, ft9 _ _ HS.out.2 ?_⟩
   ·
    rw [sumB, ← HS.out.1]; exact hv2
   ·
    rw [← HS.out.1, ← hr2]; exact h
  clear hat hr2 hv2
  generalize l.getD k bs0 = x at *
  obtain ⟨x1, x2, x3⟩ := x
  obtain ⟨b1, b2, b3⟩ := b
  have hu := HU.out
  unfold bsC at hu
  dsimp only at d0 d1 d2 K
  have HXB := hid (bA HB.out (.cells #[.int .i64 x1, .int .i64 x2, .int .i64 x3] 41))
  have HXR := hid (HR.out.alloc (.cells #[.int .i64 x1, .int .i64 x2, .int .i64 x3] 41))
  have HXU := hid (hu.alloc (.cells #[.int .i64 x1, .int .i64 x2, .int .i64 x3] 41))
  obtain ⟨⟨u0, u1, u2⟩, _⟩ := HXU.out.a3f
  clear hu
  go_wp2_with fail
  refine (K.out _).mono ?_
  rintro e W ⟨rfl, hb⟩
  have HYB := hid (bT HXB.out hb)
  have HYR := hid (HXR.out.t hb)
  have hyu := HXU.out.t hb
  obtain ⟨⟨u0, u1, u2⟩, g0, g1, g2⟩ := hyu.a3f
  obtain ⟨y1, y2, y3⟩ := v2
  have HZU := hid (((Blk.setJ hyu 0 (.int .i64 y1)).setJ 1 (.int .i64 y2)).setJ 2 (.int .i64 y3))
  have HZR := hid (((Blk.setO HYR.out (show w.heap.size ≠ w.heap.size + 1 by omega) 0 (.int .i64 y1)).setO (show w.heap.size ≠ w.heap.size + 1 by omega) 1 (.int .i64 y2)).setO (show w.heap.size ≠ w.heap.size + 1 by omega) 2 (.int .i64 y3))
  have HZB := hid (bS (bS (bS HYB.out (p := ⟨w.heap.size + 1, 0, none⟩) (Nat.le_succ _) (.int .i64 y1)) (p := ⟨w.heap.size + 1, 1, none⟩) (Nat.le_succ _) (.int .i64 y2)) (p := ⟨w.heap.size + 1, 2, none⟩) (Nat.le_succ _) (.int .i64 y3))
  clear hb K hyu
  by_cases h0 : r2 = 0
  ·
   have HG := hid (HNX.out h0)
   subst h0
   clear HNX HSK
   dsimp only
   go_wp2_with fail
   go_roundw
   case rel => exact ⟨k + 1, ⟨y1, y2, y3⟩, by omega, by go_num, HG, HZB, HZR, HZU⟩
   case measure => simp [intOf]; omega
  ·
   have tr : (r2 != 0) = true := by simpa using h0
   have HG := hid (HSK.out h0)
   obtain ⟨⟨c0, c1, c2⟩, f0, f1, f2⟩ := HZR.out.a3f
   clear HNX HSK h0
   dsimp only
   go_wp2_with fail
   refine bodyPost_ret (v := .tuple #[.agg #[.int .i64 0, .int .i64 0, .int .i64 0], .int .i64 r2]) (by simp [results, results82, go_sem, c0, c1, c2]) rfl ⟨by rw [HG.out.1, HG.out.2.1, HG.out.2.2] <;> rfl, ?_⟩
   exact bS (bS (bS HZB.out (Nat.le_refl _) _) (Nat.le_refl _) _) (Nat.le_refl _) _
theorem bothE_ten {a b : Bs} (h : bothE Ao9 a b ≠ 0) : bothE Ao9 a b = 10 := by
 unfold bothE at h ⊢
 split at h
 ·
  exact absurd rfl h
 ·
  rw [if_neg ‹_›]
theorem bOf_c (kds : List Kd) (As Ac Ak : Option Addr) (ns cs nc cc nk ck : Nat) (lim rnd : Int) (A : Option Addr) (n c : Nat) (L : List El) (w : World) (hs : KdSl w Ak nk kds) (hok : ∀ k, k < kds.length → KdOK (kds.getD k kd0)) (hl : ElSl w A n L) (re : Int) (rv : Bs) (he : Hid (re = ofE kds L)) (hv : Hid (rv = ofV kds L)) :
  Calls prog 79 #[.agg #[.slice As ns cs, .slice Ac nc cc, .slice Ak nk ck, .int .i64 lim, .int .i64 rnd], .slice A n c] w fun e w' => e = .returned (.tuple #[.agg #[.int .i64 rv.c, .int .i64 rv.t, .int .i64 rv.s], .int .i64 re]) ∧ Below w.heap.size w w' := by
 have HN : Hid (n = L.length) := hl.1
 have hn9 := hl.2.1
 have hb0 := bA (below1 w (.cells #[.slice As ns cs, .slice Ac nc cc, .slice Ak nk ck, .int .i64 lim, .int .i64 rnd] 26)) (.cells #[.int .i64 0, .int .i64 0, .int .i64 0] 41)
 have HB0 := hid hb0
 have z1 := (Blk.mk w 26 #[.slice As ns cs, .slice Ac nc cc, .slice Ak nk ck, .int .i64 lim, .int .i64 rnd]).alloc (.cells #[.int .i64 0, .int .i64 0, .int .i64 0] 41)
 have z2 := Blk.mk (w.alloc (.cells #[.slice As ns cs, .slice Ac nc cc, .slice Ak nk ck, .int .i64 lim, .int .i64 rnd] 26)) 41 #[.int .i64 0, .int .i64 0, .int .i64 0]
 simp only [World.size_alloc] at z2
 have HZ1 := hid z1
 have HZ2 := hid z2
 have HS := hid hs
 have HL := hid hl
 have HOK := hid hok
 obtain ⟨ce, hce⟩ : ∃ ce, ce = chkA kds L n := ⟨_, rfl⟩
 have KC := hid (eall_c kds As Ac Ak ns cs nc cc nk ck lim rnd A n c L _ (hs.below hb0) (RowSl.below hl hb0) ce hce)
 obtain ⟨p0, p1, p2, p3, p4⟩ := z1.all5
 have HCE := hid hce
 clear hs hl hok hb0 z1 z2 hce
 by_cases h0 : ce = 0
 case neg =>
  have tr : (ce != 0) = true := by simpa using h0
  have h1 : chkA kds L L.length ≠ 0 := by rw [← HN.out, ← HCE.out]; exact h0
  have HE : Hid (re = ce) := he.out.trans (by unfold ofE; rw [if_pos h1, ← HN.out, HCE.out])
  have HV : Hid (rv = bs0) := hv.out.trans (by unfold ofV ofE; rw [if_pos h1, if_neg h1])
  clear h0 h1
  go_enter func79, ntmps79
  go_wp2_with fail
  refine KC.out.mono ?_
  rintro e W ⟨rfl, hb⟩
  obtain ⟨⟨c0, c1, c2⟩, f0, f1, f2⟩ := (HZ2.out.t hb).a3f
  have HBW := hid (bT HB0.out hb)
  clear hb KC p0 p1 p2 p3 p4
  go_wp2_with fail
  refine bodyPost_ret (v := .tuple #[.agg #[.int .i64 0, .int .i64 0, .int .i64 0], .int .i64 ce]) (by simp [results, results79, go_sem, c0, c1, c2]) rfl ⟨by rw [HE.out, HV.out] <;> rfl, ?_⟩
  exact bS (bS (bS HBW.out (Nat.le_succ _) _) (Nat.le_succ _) _) (Nat.le_succ _) _
 subst h0
 have hch : chkA kds L L.length = 0 := by rw [← HN.out]; exact HCE.out.symm
 have HEL : Hid (∀ k, k < n → kdE kds (L.getD k el0).k = 0 ∧ elE (L.getD k el0).a (L.getD k el0).u = 0) := fun k hk => by
  have h1 := hch
  unfold chkA at h1
  by_cases h2 : 32 < L.length
  ·
   rw [if_pos h2] at h1; cases h1
  rw [if_neg h2] at h1
  have h3 := firstNZ_all _ _ h1 k (by have := HN.out; omega)
  unfold chkE at h3
  by_cases h4 : kdE kds (L.getD k el0).k ≠ 0
  ·
   rw [if_pos h4] at h3; exact absurd h3 h4
  ·
   rw [if_neg h4] at h3; exact ⟨by simpa using h4, h3⟩
 have hof : ofE kds L = sumBE (ofF kds L) n := by unfold ofE; rw [if_neg (fun h => h hch), HN.out]
 have HEE : Hid (re = sumBE (ofF kds L) n) := he.out.trans hof
 have HVV : Hid (rv = if sumBE (ofF kds L) n = 0 then sumB (ofF kds L) n else bs0) := hv.out.trans (by unfold ofV; rw [hof, HN.out])
 clear hof
 have HST : Hid (∀ k, k < n → fz9 (fun k => bothE Ao9 (sumB (ofF kds L) k) (ofF kds L k)) k = 0 → bothE Ao9 (sumB (ofF kds L) k) (ofF kds L k) ≠ 0 → re = 10 ∧ rv = bs0) := fun k hk h0 h1 => by
  have e1 : sumBE (ofF kds L) n = 10 := by
   unfold sumBE
   rw [fS9 (fun k => bothE Ao9 (sumB (ofF kds L) k) (ofF kds L k)) k _ h0 h1 hk]
   exact bothE_ten h1
  exact ⟨HEE.out.trans e1, HVV.out.trans (by rw [if_neg (by rw [e1]; decide)])⟩
 clear hch
 go_enter func79, ntmps79
 go_wp2_with fail
 refine KC.out.mono ?_
 rintro e w1 ⟨rfl, hb⟩
 have HB1 := hid (bA (bT HB0.out hb) (.cells #[.int .i64 0, .int .i64 0, .int .i64 0] 41))
 have HX1 := hid ((HZ1.out.t hb).alloc (.cells #[.int .i64 0, .int .i64 0, .int .i64 0] 41))
 have HX2 := hid ((HZ2.out.t hb).alloc (.cells #[.int .i64 0, .int .i64 0, .int .i64 0] 41))
 have HX3 := hid (Blk.mk w1 41 #[.int .i64 0, .int .i64 0, .int .i64 0])
 have hw1 := (HZ2.out.t hb).lt
 clear hb KC p0 p1 p2 p3 p4
 go_wp2_with fail
 go_loopw [23, 9, 10, 11, 12, 13] (fun i _ _ _ _ _ wr => ∃ (k : Nat) (b : Bs), k ≤ n ∧ i = .int .i64 k ∧ Hid (b = sumB (ofF kds L) k ∧ fz9 (fun k => bothE Ao9 (sumB (ofF kds L) k) (ofF kds L k)) k = 0) ∧ Hid (Below w.heap.size w wr) ∧ Hid (Blk wr w.heap.size 26 #[.slice As ns cs, .slice Ac nc cc, .slice Ak nk ck, .int .i64 lim, .int .i64 rnd]) ∧ Hid (Blk wr (w.heap.size + 1) 41 #[.int .i64 0, .int .i64 0, .int .i64 0]) ∧ Hid (Blk wr w1.heap.size 41 (bsC b))) (fun i _ _ _ _ _ _ => n - (intOf i).toNat)
 case atStart => exact ⟨0, bs0, Nat.zero_le _, rfl, ⟨rfl, rfl⟩, HB1, HX1, HX2, HX3⟩
 case round =>
  clear HB1 HX1 HX2 HX3
  obtain ⟨k, b, hk', rfl, HSK, HB, HX1, HX2, HX3⟩ := hrel
  have hlt := HX3.out.lt
  by_cases hk : k < n
  case neg =>
   obtain rfl : n = k := by omega
   have HE : Hid (re = 0) := HEE.out.trans HSK.out.2
   have HV : Hid (rv = b) := HVV.out.trans (by rw [if_pos (show sumBE (ofF kds L) n = 0 from HSK.out.2)]; exact HSK.out.1.symm)
   obtain ⟨b1, b2, b3⟩ := b
   have hu := HX3.out
   unfold bsC at hu
   obtain ⟨⟨u0, u1, u2⟩, _⟩ := hu.a3f
   obtain ⟨⟨c0, c1, c2⟩, f0, f1, f2⟩ := HX2.out.a3f
   clear hk hk' hu
   go_wp2_with fail
   refine bodyPost_ret (v := .tuple #[.agg #[.int .i64 b1, .int .i64 b2, .int .i64 b3], .int .i64 0]) (by simp [results, results79, go_sem, c0, c1, c2]) rfl ⟨by rw [HE.out, HV.out], ?_⟩
   exact bS (bS (bS HB.out (Nat.le_succ _) _) (Nat.le_succ _) _) (Nat.le_succ _) _
  obtain ⟨bb, off, rfl, hblt, hat⟩ := (RowSl.below HL.out HB.out).2.2 (by omega)
  have d0 := hat k hk 0 _ rfl
  have d1 := hat k hk 1 _ rfl
  have d2 := hat k hk 2 _ rfl
  simp only [Nat.add_zero] at d0
  obtain ⟨he1, he2⟩ := HEL.out k hk
  obtain ⟨kx, hkx⟩ : ∃ kx, kx = kdX kds (L.getD k el0).k := ⟨_, rfl⟩
  obtain ⟨ev, hev⟩ : ∃ ev, ev = elV (L.getD k el0).a (L.getD k el0).u := ⟨_, rfl⟩
  have hkr := kd_range HOK.out (L.getD k el0).k
  rw [← hkx] at hkr
  have hvb := elV_bd (L.getD k el0).a (L.getD k el0).u
  rw [← hev] at hvb
  have KK := hid (fun W hW => kind_c kds As Ac Ak ns cs nc cc nk ck lim rnd (L.getD k el0).k W (HS.out.below hW) kx 0 hkx (by unfold Hid; exact he1.symm))
  have KV := hid (fun W => evalue_c (L.getD k el0).k (L.getD k el0).a (L.getD k el0).u W ev 0 hev (by unfold Hid; exact he2.symm))
  have hfo : ofF kds L k = ⟨ev * kx.c, ev * kx.t, ev * kx.s⟩ := by unfold ofF elB; rw [← hkx, ← hev]
  have m1 := mul_one_bd hvb hkr.1
  have m2 := mul_one_bd hvb hkr.2.1
  have m3 := mul_one_bd hvb hkr.2.2
  obtain ⟨r2, hr2⟩ : ∃ r2, r2 = bothE Ao9 b (ofF kds L k) := ⟨_, rfl⟩
  obtain ⟨v2, hv2⟩ : ∃ v2, v2 = bothV Ao9 b (ofF kds L k) := ⟨_, rfl⟩
  have KA := hid (fun W => bAdd_c b (ofF kds L k) W r2 v2 hr2 hv2)
  rw [hfo] at KA
  have HSX : Hid (r2 ≠ 0 → re = 10 ∧ rv = bs0 ∧ r2 = 10) := fun h => by
   have e := HST.out k hk HSK.out.2 (by rw [← HSK.out.1, ← hr2]; exact h)
   refine ⟨e.1, e.2, ?_⟩
   rw [hr2] at h ⊢
   exact bothE_ten h
  have HNX : Hid (r2 = 0 → v2 = sumB (ofF kds L) (k + 1) ∧ fz9 (fun k => bothE Ao9 (sumB (ofF kds L) k) (ofF kds L k)) (k + 1) = 0) := fun h => by
   refine ⟨?_, ft9 _ _ HSK.out.2 ?_⟩
   ·
    rw [sumB, ← HSK.out.1]; exact hv2
   ·
    rw [← HSK.out.1, ← hr2]; exact h
  have HSZ : Hid (k < L.length) := by have := HN.out; unfold Hid; omega
  clear hat hr2 hv2 hfo hkx hev he1 he2 hkr
  generalize (L.getD k el0).k = ek at *
  generalize (L.getD k el0).a = ea at *
  generalize (L.getD k el0).u = eu at *
  obtain ⟨kn, k1, k2, k3⟩ := kx
  obtain ⟨b1, b2, b3⟩ := b
  have hu := HX3.out
  unfold bsC at hu
  dsimp only at KK KA m1 m2 m3
  have HXB := hid (bA HB.out (.cells #[.string ek, .int .i64 ea, .int .i64 eu] 98))
  have HY1 := hid (HX1.out.alloc (.cells #[.string ek, .int .i64 ea, .int .i64 eu] 98))
  have HY2 := hid (HX2.out.alloc (.cells #[.string ek, .int .i64 ea, .int .i64 eu] 98))
  have HY3 := hid (hu.alloc (.cells #[.string ek, .int .i64 ea, .int .i64 eu] 98))
  have HYE := hid (Blk.mk wr 98 #[.string ek, .int .i64 ea, .int .i64 eu])
  obtain ⟨p0, p1, p2, p3, p4⟩ := HY1.out.all5
  clear hu
  go_wp2_with fail
  refine (KK.out _ HXB.out).mono ?_
  rintro e w2 ⟨rfl, hb⟩
  have HB2 := hid (bA (bT HXB.out hb) (.cells #[.string kn, .int .i64 k1, .int .i64 k2, .int .i64 k3] 148))
  have HV1 := hid ((HY1.out.t hb).alloc (.cells #[.string kn, .int .i64 k1, .int .i64 k2, .int .i64 k3] 148))
  have HV2 := hid ((HY2.out.t hb).alloc (.cells #[.string kn, .int .i64 k1, .int .i64 k2, .int .i64 k3] 148))
  have HV3 := hid ((HY3.out.t hb).alloc (.cells #[.string kn, .int .i64 k1, .int .i64 k2, .int .i64 k3] 148))
  have HVE := hid ((HYE.out.t hb).alloc (.cells #[.string kn, .int .i64 k1, .int .i64 k2, .int .i64 k3] 148))
  have HVK := hid (Blk.mk w2 148 #[.string kn, .int .i64 k1, .int .i64 k2, .int .i64 k3])
  obtain ⟨⟨v0, v1, v2'⟩, _⟩ := HVE.out.a3f
  clear hb KK p0 p1 p2 p3 p4
  go_wp2_with fail
  refine (KV.out _).mono ?_
  rintro e w3 ⟨rfl, hb⟩
  have HB3 := hid (bA (bT HB2.out hb) (.cells #[.int .i64 (ev * k1), .int .i64 (ev * k2), .int .i64 (ev * k3)] 41))
  have HT1 := hid ((HV1.out.t hb).alloc (.cells #[.int .i64 (ev * k1), .int .i64 (ev * k2), .int .i64 (ev * k3)] 41))
  have HT2 := hid ((HV2.out.t hb).alloc (.cells #[.int .i64 (ev * k1), .int .i64 (ev * k2), .int .i64 (ev * k3)] 41))
  have HT3 := hid ((HV3.out.t hb).alloc (.cells #[.int .i64 (ev * k1), .int .i64 (ev * k2), .int .i64 (ev * k3)] 41))
  obtain ⟨_, q1, q2, q3⟩ := (HVK.out.t hb).a4f.1
  obtain ⟨⟨u0, u1, u2⟩, _⟩ := HT3.out.a3f
  clear hb KV v0 v1 v2'
  go_wp2_with fail
  refine (KA.out _).mono ?_
  rintro e w4 ⟨rfl, hb⟩
  have HB4 := hid (bT HB3.out hb)
  have hyu := HT3.out.t hb
  obtain ⟨⟨u0, u1, u2⟩, g0, g1, g2⟩ := hyu.a3f
  obtain ⟨y1, y2, y3⟩ := v2
  have HZU := hid (((Blk.setJ hyu 0 (.int .i64 y1)).setJ 1 (.int .i64 y2)).setJ 2 (.int .i64 y3))
  have hn1 : w.heap.size + 1 ≠ w1.heap.size := by omega
  have hn0 : w.heap.size ≠ w1.heap.size := by omega
  have hle : w.heap.size ≤ w1.heap.size := by omega
  have HZ1 := hid (((Blk.setO (HT1.out.t hb) hn0 0 (.int .i64 y1)).setO hn0 1 (.int .i64 y2)).setO hn0 2 (.int .i64 y3))
  have HZ2 := hid (((Blk.setO (HT2.out.t hb) hn1 0 (.int .i64 y1)).setO hn1 1 (.int .i64 y2)).setO hn1 2 (.int .i64 y3))
  have HZB := hid (bS (bS (bS HB4.out (p := ⟨w1.heap.size, 0, none⟩) hle (.int .i64 y1)) (p := ⟨w1.heap.size, 1, none⟩) hle (.int .i64 y2)) (p := ⟨w1.heap.size, 2, none⟩) hle (.int .i64 y3))
  clear hb KA hyu q1 q2 q3
  by_cases h0 : r2 = 0
  ·
   have HG := hid (HNX.out h0)
   subst h0
   clear HNX HSX
   dsimp only
   go_wp2_with fail
   go_roundw
   case rel => exact ⟨k + 1, ⟨y1, y2, y3⟩, by omega, by go_num, HG, HZB, HZ1, HZ2, HZU⟩
   case measure => simp [intOf]; omega
  ·
   have tr : (r2 != 0) = true := by simpa using h0
   have HG := hid (HSX.out h0)
   obtain ⟨⟨c0, c1, c2⟩, f0, f1, f2⟩ := HZ2.out.a3f
   clear HNX HSX h0
   dsimp only
   go_wp2_with fail
   refine bodyPost_ret (v := .tuple #[.agg #[.int .i64 0, .int .i64 0, .int .i64 0], .int .i64 r2]) (by simp [results, results79, go_sem, c0, c1, c2]) rfl ⟨by rw [HG.out.1, HG.out.2.1, HG.out.2.2] <;> rfl, ?_⟩
   exact bS (bS (bS HZB.out (Nat.le_succ _) _) (Nat.le_succ _) _) (Nat.le_succ _) _
def okT (cts : List Ct) (l : List Bs) (nc n : Nat) : Prop := (∀ k, k < n → okY cts l nc k = true) ∧ ∀ k i, k < n → i < nc → okS (rowY cts l nc) k i = true
def ToDR (cts : List Ct) (l : List Bs) (nc n : Nat) (w : World) (e : Ending) (w' : World) : Prop :=
  ((okT cts l nc n ∧ ∃ v, e = .returned (.tuple #[v, .int .i64 0]) ∧ OwnS w' w.heap.size v nc (sumL (rowY cts l nc) nc n 0)) ∨
   (¬ okT cts l nc n ∧ e = .returned (.tuple #[.slice none 0 0, .int .i64 10]))) ∧ Below w.heap.size w w'
theorem todate_c (cts : List Ct) (As Ac Ak A : Option Addr) (ns cs nc cc nk ck n c : Nat) (lim rnd : Int) (l : List Bs) (w : World) (hs : CtSl w Ac nc cts) (hok : ∀ k, k < nc → CtOK (cts.getD k ct0)) (hl : BsSl w A n l) (hn : nc ≤ 64) (hn2 : n ≤ 1000) :
  Calls prog 83 #[.agg #[.slice As ns cs, .slice Ac nc cc, .slice Ak nk ck, .int .i64 lim, .int .i64 rnd], .slice A n c] w (ToDR cts l nc n w) := by
 have KY := hid (fun W h1 h2 => year_c cts As Ac Ak A ns cs nc cc nk ck n c lim rnd l W h1 hok h2 (by omega) hn2)
 have HS := hid hs
 have HL := hid hl
 have z := Blk.mk w 26 #[.slice As ns cs, .slice Ac nc cc, .slice Ak nk ck, .int .i64 lim, .int .i64 rnd]
 have hb0 := below1 w (.cells #[.slice As ns cs, .slice Ac nc cc, .slice Ak nk ck, .int .i64 lim, .int .i64 rnd] 26)
 clear hs hl hok
 go_enter func83, ntmps83
 go_wp2_with fail
 refine (KY.out _ (HS.out.below hb0) (HL.out.below hb0)).mono ?_
 rintro e w1 ⟨⟨hyes, v, rfl, hv⟩ | ⟨⟨k, hk, hno⟩, rfl⟩, hb1⟩
 case inr =>
  have HN : Hid (¬ okT cts l nc n) := fun h => by
   have := h.1 k hk
   rw [hno] at this
   cases this
  clear hno
  go_wp2_with fail
  go_ret2
  exact ⟨Or.inr ⟨HN.out, rfl⟩, bT hb0 hb1⟩
 have HY := hid hyes
 clear hyes
 obtain ⟨A1, c1, rfl, hc1, hr⟩ := hv.sl (by omega)
 have HV := hid hv
 have KS := hid (sum_c (rowY cts l nc) A1 n c1 nc w1 hr hn)
 have z1 := z.t hb1
 obtain ⟨p0, p1, p2, p3, p4⟩ := z1.all5
 have hb2 := bT hb0 hb1
 clear hv hr
 go_wp2_with fail
 refine KS.out.mono ?_
 rintro e w2 ⟨⟨hyes, v, rfl, hv⟩ | ⟨⟨k, i, hk, hi, hno⟩, rfl⟩, hb3⟩
 ·
  have HT : Hid (okT cts l nc n) := ⟨HY.out, hyes⟩
  have HVV := hid hv
  clear hyes hv
  go_wp2_with fail
  go_ret2
  exact ⟨Or.inl ⟨HT.out, v, rfl, HVV.out.1, oM9 HVV.out.2 hb2.size⟩, bT hb2 hb3⟩
 ·
  have HN : Hid (¬ okT cts l nc n) := fun h => by
   have := h.2 k i hk hi
   rw [hno] at this
   cases this
  clear hno
  go_wp2_with fail
  go_ret2
  exact ⟨Or.inr ⟨HN.out, rfl⟩, bT hb2 hb3⟩
theorem own_put {w : World} {base size n cap g : Nat} {e : TypeId} {xs : List Value} (h : w.ownsRow base e size (.slice (some ⟨g, 0, none⟩) n cap) n xs) (j : Nat) (u : Value) :
  (w.setCell ⟨g, j, none⟩ u).ownsRow base e size (.slice (some ⟨g, 0, none⟩) n cap) n (xs.set j u) := by
 obtain ⟨h1, h2 | ⟨g', cap', cur, hv, hb, hg, hle, hm, hs, ht⟩⟩ := h
 ·
  cases h2.1
 ·
  injection hv with hA _ hc
  injection hA with hA
  injection hA with hg' _
  subst hg'
  subst hc
  refine ⟨by rw [List.length_set]; exact h1, Or.inr ⟨g, cap, cur.setIfInBounds j u, rfl, hb, heap_setCell_same w g j cur e u hg, hle, hm, by simpa using hs, ?_⟩⟩
  rw [← ht]
  simp [List.take_set]
theorem odC_set (l : List Od) (a : Nat) (ha : a < l.length) (z : Od) : (l.set a z).flatMap odC = ((l.take a).flatMap odC) ++ (odC z ++ (l.drop (a + 1)).flatMap odC) := by
 rw [List.set_eq_take_append_cons_drop, if_pos ha, List.flatMap_append, List.flatMap_cons]
theorem odC_self (l : List Od) (a : Nat) (ha : a < l.length) : l.flatMap odC = ((l.take a).flatMap odC) ++ (odC (l.getD a od0) ++ (l.drop (a + 1)).flatMap odC) := by
 have := odC_set l a ha (l.getD a od0)
 rwa [show l.set a (l.getD a od0) = l by rw [getD_at l od0 ha]; exact List.set_getElem_self ha] at this
theorem odC_at (l : List Od) (a : Nat) (ha : a < l.length) (j : Nat) (hj : j < 7) : (l.flatMap odC)[a * 7 + j]? = (odC (l.getD a od0))[j]? := by
 have hX : ((l.take a).flatMap odC).length = a * 7 := by rw [odC_flat, List.length_take]; omega
 rw [odC_self l a ha, List.getElem?_append_right (by omega), hX, show a * 7 + j - a * 7 = j by omega, List.getElem?_append_left (by rw [odC_len]; exact hj)]
theorem odC_put (l : List Od) (a : Nat) (ha : a < l.length) (s c : Int) :
  ((l.flatMap odC).set (a * 7 + 5) (.int .i64 s)).set (a * 7 + 6) (.int .i64 c) = (l.set a { l.getD a od0 with tk := s, ar := c }).flatMap odC ∧
  ((l.flatMap odC).set (a * 7 + 6) (.int .i64 c)).set (a * 7 + 5) (.int .i64 s) = (l.set a { l.getD a od0 with tk := s, ar := c }).flatMap odC := by
 have hX : ((l.take a).flatMap odC).length = a * 7 := by rw [odC_flat, List.length_take]; omega
 rw [odC_set l a ha, odC_self l a ha]
 generalize l.getD a od0 = z
 generalize (l.take a).flatMap odC = X at *
 generalize (l.drop (a + 1)).flatMap odC = Y
 constructor
 ·
  rw [List.set_append_right _ _ (by omega), List.set_append_right _ _ (by omega)]
  rw [show a * 7 + 5 - X.length = 5 by omega, show a * 7 + 6 - X.length = 6 by omega]
  rfl
 ·
  rw [List.set_append_right _ _ (by omega), List.set_append_right _ _ (by omega)]
  rw [show a * 7 + 5 - X.length = 5 by omega, show a * 7 + 6 - X.length = 6 by omega]
  rfl
def TookR (l : List Od) (ts : List Tk) (p : Nat) (w : World) (e : Ending) (w' : World) : Prop := e = .returned (.int .i64 (tookE l ts)) ∧ Bk w' p (tookL l ts) ∧ w.grownBy w' (some p)
theorem btook_c (p : Nat) (l : List Od) (A0 : Option Addr) (m c0 : Nat) (ts : List Tk) (w : World) (hb : Bk w p l) (hn2 : l.length ≤ 1000) (ht : TkSl w A0 m ts) :
  Calls prog 150 #[.pointer (some ⟨p, 0, none⟩), .slice A0 m c0] w (TookR l ts p w) := by
 have hlt := hb.lt
 have HBK := hid hb
 obtain ⟨A, c, hB, hnc, hs, hO⟩ := hb.sl
 obtain ⟨n, hn⟩ : ∃ n, n = l.length := ⟨_, rfl⟩
 rw [← hn] at hB hs hn2
 have KC := hid (sclone_c A n c l w hs (by omega))
 have HL := hid hn
 have HT := hid ht
 have HM := hid ht.1
 have hm9 := ht.2.1
 have HB := hid hB
 have d0 := hB.cell 0
 have HTL := hid (tookT_len l ts)
 have HSK : Hid (∀ k, k ≤ m → (tookT l ts k).1 ≠ 0 → tookE l ts = (tookT l ts k).1) := fun k hk h => by
  have := tookT_stick l ts k h m hk
  unfold tookE; rw [← HM.out, this]
 have HST : Hid (∀ k, (tookT l ts k).1 = 0 → tookT l ts (k + 1) = if tookX (tookT l ts k).2 (ts.getD k tk0) ≠ 0 then (tookX (tookT l ts k).2 (ts.getD k tk0), (tookT l ts k).2) else (0, tookA (tookT l ts k).2 (ts.getD k tk0))) := fun k h => by
  rw [tookT, if_neg (by simp [h])]
 have HERR : Hid (∀ k W r, k ≤ m → Below w.heap.size w W → (tookT l ts k).1 = r → r ≠ 0 → TookR l ts p w (.returned (.int .i64 r)) W) := fun k W r hk hW h hr => by
  have e := HSK.out k hk (by rw [h]; exact hr)
  rw [h] at e
  refine ⟨by rw [e], ?_, grown_row hW _⟩
  rw [tookL, if_neg (by rw [e]; exact hr)]
  exact HBK.out.t hW
 clear hb hB hs hO hn ht hnc
 go_enter func150, ntmps150
 go_wp2_with fail
 refine KC.out.mono ?_
 rintro e w1 ⟨⟨v1, rfl, ho1⟩, hb1⟩
 obtain ⟨A1, cp, rfl⟩ := oL9 ho1.2
 have HO1 := hid ho1.2
 clear ho1
 go_wp2_with fail
 go_loopw [18] (fun i wr => ∃ k : Nat, k ≤ m ∧ i = .int .i64 k ∧ Hid ((tookT l ts k).1 = 0) ∧ wr.ownsRow w.heap.size 213 7 (.slice A1 n cp) n ((tookT l ts k).2.flatMap odC) ∧ Below w.heap.size w wr) (fun i _ => m - (intOf i).toNat)
 case atStart => exact ⟨0, Nat.zero_le _, rfl, rfl, HO1.out, hb1⟩
 case round =>
  obtain ⟨k, hk', rfl, HZ, ho, hbl⟩ := hrel
  have HO := hid ho
  have hsz := hbl.size
  clear ho
  by_cases hk : k < m
  case neg =>
   obtain rfl : k = m := by omega
   have q0 := (HB.out.t hbl).cell 0
   have q1 := (HB.out.t hbl).free 0
   have HF : Hid (TookR l ts p w (.returned (.int .i64 0)) (wr.setCell ⟨p, 0, none⟩ (.slice A1 n cp))) := by
    have e : tookE l ts = 0 := by unfold tookE; rw [← HM.out]; exact HZ.out
    refine ⟨by rw [e], ?_, grown_set hbl p _⟩
    rw [tookL, if_pos e, ← HM.out]
    have hln : n = (tookT l ts k).2.length := by rw [HTL.out]; exact HL.out
    have ho : OwnOd wr w.heap.size (.slice A1 n cp) n (tookT l ts k).2 := ⟨hln, HO.out⟩
    rw [hln] at ho ⊢
    exact Bk.set (HB.out.t hbl) ho hlt
   go_wp2_with fail
   go_ret
   exact HF.out
  obtain ⟨bt, off, rfl, hltb, hat⟩ := (HT.out.below hbl).2.2 (by omega)
  have hcl := hat k hk
  have HS1 := hid (HST.out k HZ.out)
  have HER := hid (HERR.out (k + 1))
  have hL2 := hid (HTL.out k)
  generalize ts.getD k tk0 = x at *
  obtain ⟨xo, xb, xr, xd, xt, xc⟩ := x
  obtain ⟨lk, hlk⟩ : ∃ lk, lk = (tookT l ts k).2 := ⟨_, rfl⟩
  rw [← hlk] at HS1 HO hL2
  obtain ⟨c0, c1, c2, c3, c4, c5⟩ : wr.cell? ⟨bt, off + k * 6, none⟩ = some (.int .i64 xo) ∧ wr.cell? ⟨bt, off + k * 6 + 1, none⟩ = some (.int .i64 xb) ∧ wr.cell? ⟨bt, off + k * 6 + 2, none⟩ = some (.int .i64 xr) ∧ wr.cell? ⟨bt, off + k * 6 + 3, none⟩ = some (.int .i64 xd) ∧ wr.cell? ⟨bt, off + k * 6 + 4, none⟩ = some (.int .i64 xt) ∧ wr.cell? ⟨bt, off + k * 6 + 5, none⟩ = some (.int .i64 xc) := ⟨hcl 0 _ rfl, hcl 1 _ rfl, hcl 2 _ rfl, hcl 3 _ rfl, hcl 4 _ rfl, hcl 5 _ rfl⟩
  have y := Blk.mk wr 116 #[.int .i64 xo, .int .i64 xb, .int .i64 xr, .int .i64 xd, .int .i64 xt, .int .i64 xc]
  have hb2 := bA hbl (.cells #[.int .i64 xo, .int .i64 xb, .int .i64 xr, .int .i64 xd, .int .i64 xt, .int .i64 xc] 116)
  have hln : n = lk.length := by rw [hL2.out]; exact HL.out
  have HLN := hid hln
  have ho2 : OwnOd (wr.alloc (.cells #[.int .i64 xo, .int .i64 xb, .int .i64 xr, .int .i64 xd, .int .i64 xt, .int .i64 xc] 116)) w.heap.size (.slice A1 n cp) n lk := ⟨hln, oB9 HO.out (below1 _ _)⟩
  obtain ⟨A2, c2, hv2, _, hs2⟩ := ho2.sl
  injection hv2 with e1 _ e2
  subst e1; subst e2
  have KX := hid (oidx3_c A1 n cp lk wr.heap.size xo _ hs2 (y.cell 0) y.lt)
  have HX : Hid (∀ r, tookX lk ⟨xo, xb, xr, xd, xt, xc⟩ = r → r ≠ 0 → ∀ W, Below w.heap.size w W → TookR l ts p w (.returned (.int .i64 r)) W) := fun r h hr W hW => by
   have e := HS1.out
   rw [if_pos (by rw [h]; exact hr)] at e
   exact HER.out W r (by omega) hW (by rw [e]; exact h) hr
  have HG : Hid (tookX lk ⟨xo, xb, xr, xd, xt, xc⟩ = 0 → tookT l ts (k + 1) = (0, tookA lk ⟨xo, xb, xr, xd, xt, xc⟩)) := fun h => by rw [HS1.out, if_neg (by simp [h])]
  clear hcl hat hlk hln hs2 HS1 HER
  go_wp2_with fail
  refine KX.out.mono ?_
  rintro e w2 ⟨⟨h1, rfl⟩ | ⟨h1, rfl⟩, hb3⟩
  case inr =>
   have hB3 := bT hb2 hb3
   have HF := hid (HX.out 3 (by unfold tookX; rw [if_pos (by dsimp only; rw [← HLN.out]; omega)]) (by decide) w2 hB3)
   clear h1
   go_wp2_with fail
   go_ret
   exact HF.out
  have hB3 := bT hb2 hb3
  obtain ⟨a, ha⟩ : ∃ a, a = atO lk xo := ⟨_, rfl⟩
  rw [← ha] at h1 ⊢
  obtain ⟨g, cg, hvg, hgb, hgl, hgc, _⟩ := own_form HO.out (by omega)
  injection hvg with e1 _ e2
  subst e1; subst e2
  have HB3 := hid hB3
  have HRW : Hid (∀ W, Below w2.heap.size w2 W → W.ownsRow w.heap.size 213 7 (.slice (some ⟨g, 0, none⟩) n cp) n (lk.flatMap odC)) := fun W hW => oB9 (oB9 (oB9 HO.out (below1 _ _)) hb3) hW
  have hal : a < lk.length := by rw [← HLN.out]; exact h1
  have HAL := hid hal
  obtain ⟨tk, htk⟩ : ∃ t, t = (lk.getD a od0).tk := ⟨_, rfl⟩
  have HTA : Hid (tookA lk ⟨xo, xb, xr, xd, xt, xc⟩ = lk.set a { lk.getD a od0 with tk := tk + xt, ar := xc }) := by unfold Hid tookA; rw [htk, ha]
  have HTX : Hid (tookX lk ⟨xo, xb, xr, xd, xt, xc⟩ = if ¬ (mrB tk = true ∧ mrB xt = true ∧ mrB (tk + xt) = true) then 10 else if mrB xc = false then 10 else 0) := by
   unfold Hid tookX
   rw [if_neg (by dsimp only; rw [← ha]; omega), htk, ha]
  have HY5 : Hid (∀ W, Below w2.heap.size w2 W → W.cell? ⟨g, a * 7 + 5, none⟩ = some (.int .i64 tk) ∧ W.cell? ⟨g, a * 7 + 6, none⟩ = some (.int .i64 (lk.getD a od0).ar) ∧ (W.frozen? ⟨g, a * 7 + 5, none⟩ = false ∧ W.frozen? ⟨g, a * 7 + 6, none⟩ = false)) := fun W hW => by
   have hr := HRW.out W hW
   refine ⟨?_, ?_, hr.frozenAt _, hr.frozenAt _⟩
   ·
    rw [hr.cellAt (a * 7 + 5) (by omega), odC_at lk a HAL.out 5 (by decide), htk]; rfl
   ·
    rw [hr.cellAt (a * 7 + 6) (by omega), odC_at lk a HAL.out 6 (by decide)]; rfl
  have HPT : Hid (∀ W, Below w2.heap.size w2 W → tookT l ts (k + 1) = (0, tookA lk ⟨xo, xb, xr, xd, xt, xc⟩) → ((W.setCell ⟨g, a * 7 + 5, none⟩ (.int .i64 (tk + xt))).setCell ⟨g, a * 7 + 6, none⟩ (.int .i64 xc)).ownsRow w.heap.size 213 7 (.slice (some ⟨g, 0, none⟩) n cp) n ((tookT l ts (k + 1)).2.flatMap odC) ∧ ((W.setCell ⟨g, a * 7 + 6, none⟩ (.int .i64 xc)).setCell ⟨g, a * 7 + 5, none⟩ (.int .i64 (tk + xt))).ownsRow w.heap.size 213 7 (.slice (some ⟨g, 0, none⟩) n cp) n ((tookT l ts (k + 1)).2.flatMap odC)) := fun W hW he => by
   have hp := odC_put lk a HAL.out (tk + xt) xc
   rw [he, HTA.out]
   dsimp only
   rw [← hp.1]
   constructor
   ·
    exact own_put (own_put (HRW.out W hW) _ _) _ _
   ·
    rw [hp.1, ← hp.2]
    exact own_put (own_put (HRW.out W hW) _ _) _ _
  have y2 := y.t hb3
  have G : Hid (∀ W, Below w2.heap.size w2 W → Below w2.heap.size w2 W ∧ W.cell? ⟨g, a * 7 + 5, none⟩ = some (.int .i64 tk) ∧ W.cell? ⟨wr.heap.size, 4, none⟩ = some (.int .i64 xt)) := fun W hW => ⟨hW, (HY5.out W hW).1, (y2.t hW).cell 4⟩
  have HYB := hid y2
  have v1 : decide ((a : Int) < 0) = false := by simp
  have k0 : (0 : Int) ≤ (a : Int) := by omega
  have k1 : (a : Int) < (n : Int) := by omega
  have k2 : ((a : Int)).toNat = a := by omega
  clear ha hal htk y2
  by_cases h3 : mrB tk = true ∧ mrB xt = true ∧ mrB (tk + xt) = true
  case neg =>
   have KA := hid (fun W => add_f tk xt W h3)
   have HF := hid (fun W hW => HX.out 10 (by rw [HTX.out, if_pos h3]) (by decide) W hW)
   clear h3
   go_wp2_with fail
   go_region_held3 (fun W => Below w2.heap.size w2 W ∧ W.cell? ⟨g, a * 7 + 5, none⟩ = some (.int .i64 tk) ∧ W.cell? ⟨wr.heap.size, 4, none⟩ = some (.int .i64 xt))
    (first | assumption | exact G.out _ (b0 _).drew | (exact sK G.out (by assumption) (by assumption)))
    (first | (go_at_call 124; (with_reducible refine (KA.out _).mono ?_); rintro e w3 ⟨rfl, hb4⟩))
   all_goals
    have hbz := bT HB3.out (show Below w2.heap.size w2 _ ∧ _ from by assumption).1
    go_wp2_with fail
    go_ret
    exact HF.out _ hbz
  have KA := hid (fun W => add_t tk xt W h3.1 h3.2.1 h3.2.2)
  have h3s := mr_iff.1 h3.2.2
  obtain ⟨s1, s2⟩ := h3s
  obtain ⟨mc, hmc⟩ : ∃ b, mrB xc = b := ⟨_, rfl⟩
  have HTX2 : Hid (tookX lk ⟨xo, xb, xr, xd, xt, xc⟩ = if mc = false then 10 else 0) := by rw [HTX.out, if_neg (fun h => h h3), hmc]; rfl
  have KR := hid (fun b W h => right1 b 0 1 xc W h)
  rw [hmc] at KR
  clear h3 hmc HTX
  go_wp2_with fail
  go_region_held3 (fun W => Below w2.heap.size w2 W ∧ W.cell? ⟨g, a * 7 + 5, none⟩ = some (.int .i64 tk) ∧ W.cell? ⟨wr.heap.size, 4, none⟩ = some (.int .i64 xt))
   (first | assumption | exact G.out _ (b0 _).drew | (exact sK G.out (by assumption) (by assumption)))
   (first | (go_at_call 124; (with_reducible refine (KA.out _).mono ?_); rintro e w3 ⟨rfl, hb4⟩))
  all_goals
   have hbw := (show Below w2.heap.size w2 _ ∧ _ from by assumption).1
   have y3 := HYB.out.t hbw
   have x5 := y3.cell 5
   have hbz := bT HB3.out hbw
   have HBW := hid hbw
   clear y3 hbw
   go_wp2_with fail
   refine (KR.out _ _ (by simp [ca9])).mono ?_
   rintro e w4 ⟨rfl, rfl⟩
   cases mc
   ·
    have HF := hid (HX.out 10 (by rw [HTX2.out, if_pos rfl]) (by decide) _ (bA hbz (.cells #[.int .i64 xc] 2)))
    go_wp2_with fail
    go_ret
    exact HF.out
   ·
    have HGX := hid (HG.out (by rw [HTX2.out, if_neg (by decide)]))
    have hbq := bA HBW.out (.cells #[.int .i64 xc] 2)
    have HQ := hid (HPT.out _ hbq HGX.out)
    have HBQ := hid (bA hbz (.cells #[.int .i64 xc] 2))
    obtain ⟨f5, f6, g5, g6⟩ := HY5.out _ hbq
    have x6 := (HYB.out.t hbq).cell 5
    clear x5
    have gne : ¬ g = wr.heap.size := by omega
    have gne2 : ¬ wr.heap.size = g := by omega
    clear hbq
    go_wp2_with fail
    go_region
    all_goals
     go_wp2_with fail
     go_roundw
     case rel => exact ⟨k + 1, by omega, by go_num, (by show (tookT l ts (k + 1)).1 = 0; rw [HGX.out]), (by first | exact HQ.out.1 | exact HQ.out.2), (bS (p := ⟨g, _, none⟩) (bS (p := ⟨g, _, none⟩) HBQ.out hgb _) hgb _).drew⟩
     case measure => simp [intOf]; omega
structure Kp (N : Nat) (X : Nat → Prop) (w w' : World) : Prop where
 os : w'.os = w.os
 tape : w'.tape = w.tape
 output : w'.output = w.output
 size : w.heap.size ≤ w'.heap.size
 block : ∀ k, k < N → ¬ X k → w'.heap[k]? = w.heap[k]?
theorem Kp.refl (N : Nat) (X : Nat → Prop) (w : World) : Kp N X w w := ⟨rfl, rfl, rfl, Nat.le_refl _, fun _ _ _ => rfl⟩
theorem Kp.trans {N : Nat} {X : Nat → Prop} {a b c : World} (h : Kp N X a b) (k : Kp N X b c) : Kp N X a c :=
 ⟨k.os.trans h.os, k.tape.trans h.tape, k.output.trans h.output, Nat.le_trans h.size k.size, fun i hi hx => (k.block i hi hx).trans (h.block i hi hx)⟩
theorem Kp.mono {N : Nat} {X Y : Nat → Prop} {a b : World} (h : Kp N X a b) (hxy : ∀ k, X k → Y k) : Kp N Y a b :=
 ⟨h.os, h.tape, h.output, h.size, fun i hi hx => h.block i hi (fun hX => hx (hxy i hX))⟩
theorem Kp.below {N B : Nat} {X : Nat → Prop} {a b : World} (h : Below B a b) (hN : N ≤ B) : Kp N X a b := ⟨h.os, h.tape, h.output, h.size, fun i hi _ => h.block i (by omega)⟩
theorem Kp.grown {N : Nat} {X : Nat → Prop} {a b : World} {row : Option Nat} (h : a.grownBy b row) (hN : N ≤ a.heap.size) (hr : ∀ k, row = some k → N ≤ k ∨ X k) : Kp N X a b :=
 ⟨h.os, h.tape, h.output, h.size, fun i hi hx => h.block i (by omega) (fun he => by
  rcases hr i he.symm with h1 | h1
  ·
   omega
  ·
   exact hx h1)⟩
theorem Kp.set {N : Nat} {X : Nat → Prop} {a b : World} (h : Kp N X a b) {p : Addr} (hp : N ≤ p.block ∨ X p.block) (v : Value) : Kp N X a (b.setCell p v) := by
 refine ⟨h.os, h.tape, h.output, by simpa using h.size, fun i hi hx => ?_⟩
 rw [heap_setCell_other b p i v (fun he => by
  rcases hp with h1 | h1
  ·
   omega
  ·
   rw [← he] at h1; exact hx h1)]
 exact h.block i hi hx
theorem Kp.alloc {N : Nat} {X : Nat → Prop} {a b : World} (h : Kp N X a b) (hN : N ≤ a.heap.size) (o : Obj) : Kp N X a (b.alloc o) :=
 h.trans (Kp.below ((Below.refl b.heap.size b).alloc (Nat.le_refl _) o) (Nat.le_trans hN h.size))
theorem own_kp {N : Nat} {X : Nat → Prop} {a b : World} {base size n : Nat} {e : TypeId} {v : Value} {xs : List Value} (h : a.ownsRow base e size v n xs) (hk : Kp N X a b) (hv : ∀ g, v.ownBlock = some g → g < N ∧ ¬ X g) : b.ownsRow base e size v n xs := by
 refine ⟨h.1, ?_⟩
 rcases h.2 with hl | ⟨g, cap, cur, rfl, h1, hr, hrest⟩
 ·
  exact Or.inl hl
 ·
  obtain ⟨h2, h3⟩ := hv g rfl
  exact Or.inr ⟨g, cap, cur, rfl, h1, (hk.block g h2 h3).trans hr, hrest⟩
theorem Blk.kp {N : Nat} {X : Nat → Prop} {a b : World} {g : Nat} {t : TypeId} {cs : Array Value} (h : Blk a g t cs) (hk : Kp N X a b) (h1 : g < N) (h2 : ¬ X g) : Blk b g t cs := (hk.block g h1 h2).trans h
/-! ### The numbers that are kept -/
theorem own_at {w : World} {base n c : Nat} {A : Option Addr} {l : List Od} (h : OwnOd w base (.slice A n c) n l) : OdSl w A n l := by
 obtain ⟨A', c', he, _, hs⟩ := h.sl
 injection he with h1 _ _
 subst h1
 exact hs
def SvR (l : List Od) (net prot : Int) (n : Nat) (w : World) (e : Ending) (w' : World) : Prop :=
  ((serveE l net prot = 0 ∧ ∃ v, e = .returned (.tuple #[v, .int .i64 (leftA l net prot n), .int .i64 0]) ∧ OwnTk w' w.heap.size v n (tkL l net prot n)) ∨
   (serveE l net prot ≠ 0 ∧ e = .returned (.tuple #[.slice none 0 0, .int .i64 0, .int .i64 (serveE l net prot)]))) ∧ Below w.heap.size w w'
theorem serve_all (net prot : Int) (A : Option Addr) (n c : Nat) (l : List Od) (w : World) (hl : OdSl w A n l) (hok : ∀ k, k < n → OdOK (l.getD k od0)) (hn2 : n ≤ 1000) :
  Calls prog 148 #[.int .i64 net, .int .i64 prot, .slice A n c] w (SvR l net prot n w) := by
 have hn := hl.1
 by_cases h1 : mrB net = true ∧ mrB prot = true
 ·
  by_cases h2 : prot < 0
  ·
   have e := serveE_r (l := l) h1 h2
   refine (serve_r net prot A n c w h1 h2).mono ?_
   rintro ee w' ⟨rfl, hb⟩
   exact ⟨Or.inr ⟨by rw [e]; decide, by rw [e]⟩, hb⟩
  ·
   refine (serve_c net prot A n c l w h1.1 h1.2 (by omega) hl hok hn2).mono ?_
   rintro ee w' ⟨⟨h3, v, rfl, ho⟩ | ⟨k, hk, h4, h5, rfl⟩, hb⟩
   ·
    exact ⟨Or.inl ⟨serveE_all h1 (by omega) (fun k hk => h3 k (by omega)), v, rfl, ho⟩, hb⟩
   ·
    have e := serveE_one h1 (by omega) (show k < l.length by omega) h5
    exact ⟨Or.inr ⟨by rw [e]; decide, by rw [e]⟩, hb⟩
 ·
  have e := serveE_o (l := l) h1
  refine (serve_o net prot A n c w h1).mono ?_
  rintro ee w' ⟨rfl, hb⟩
  exact ⟨Or.inr ⟨by rw [e]; decide, by rw [e]⟩, hb⟩
theorem serve_yes (net prot : Int) (A : Option Addr) (n c : Nat) (l : List Od) (w : World) (hl : OdSl w A n l) (hok : ∀ k, k < n → OdOK (l.getD k od0)) (hn2 : n ≤ 1000) (h : serveE l net prot = 0) :
  Calls prog 148 #[.int .i64 net, .int .i64 prot, .slice A n c] w fun e w' => ∃ v, (e = .returned (.tuple #[v, .int .i64 (leftA l net prot n), .int .i64 0]) ∧ OwnTk w' w.heap.size v n (tkL l net prot n)) ∧ Below w.heap.size w w' := by
 refine (serve_all net prot A n c l w hl hok hn2).mono ?_
 rintro e w' ⟨⟨_, v, h2, h3⟩ | ⟨h2, _⟩, hb⟩
 ·
  exact ⟨v, ⟨h2, h3⟩, hb⟩
 ·
  exact absurd h h2
theorem serve_no (net prot : Int) (A : Option Addr) (n c : Nat) (l : List Od) (w : World) (hl : OdSl w A n l) (hok : ∀ k, k < n → OdOK (l.getD k od0)) (hn2 : n ≤ 1000) (r : Int) (hr : serveE l net prot = r) (h : r ≠ 0) :
  Calls prog 148 #[.int .i64 net, .int .i64 prot, .slice A n c] w fun e w' => e = .returned (.tuple #[.slice none 0 0, .int .i64 0, .int .i64 r]) ∧ Below w.heap.size w w' := by
 subst hr
 refine (serve_all net prot A n c l w hl hok hn2).mono ?_
 rintro e w' ⟨⟨h2, _⟩ | ⟨_, h2⟩, hb⟩
 ·
  exact absurd h2 h
 ·
  exact ⟨h2, hb⟩
theorem od_of {l : List Od} (h : GoodA l) {n : Nat} (hn : n = l.length) : ∀ k, k < n → OdOK (l.getD k od0) := fun k hk => (h.at (by omega)).1
theorem abook_no (net prot : Int) (p : Nat) (l : List Od) (w : World) (hb : Bk w p l) (hg : GoodA l) (r : Int) (hr : serveE l net prot = r) (h : r ≠ 0) :
  Calls prog 108 #[.int .i64 net, .int .i64 prot, .pointer (some ⟨p, 0, none⟩)] w fun e w' => e = .returned (.tuple #[.slice none 0 0, .int .i64 0, .int .i64 r]) ∧ Below w.heap.size w w' := by
 have hlen := hg.len
 obtain ⟨n, hn⟩ : ∃ n, n = l.length := ⟨_, rfl⟩
 have KL := blist_c p l w hb (by omega)
 unfold GivesOd at KL
 rw [← hn] at KL hlen
 have HKL := hid KL
 have KS := hid (fun A c W hs => serve_no net prot A n c l W hs (od_of hg hn) (by omega) r hr h)
 have v0 : (r != 0) = true := by simpa using h
 clear KL hr h hn hb
 go_enter func108, ntmps108
 go_wp2_with fail
 refine HKL.out.mono ?_
 rintro e w1 ⟨⟨v1, rfl, ho⟩, hb1⟩
 obtain ⟨A1, c1, rfl⟩ := oL9 ho.2
 have HS := hid (own_at ho)
 have HB1 := hid hb1
 clear ho hb1
 go_wp2_with fail
 refine (KS.out A1 c1 _ HS.out).mono ?_
 rintro e w2 ⟨rfl, hb2⟩
 have HB2 := hid (bT HB1.out hb2)
 clear hb2
 go_wp2_with fail
 go_ret3
 exact ⟨rfl, HB2.out⟩
theorem abook_f (net prot : Int) (p : Nat) (l : List Od) (w : World) (hb : Bk w p l) (hg : GoodA l) (h : serveE l net prot = 0) (ht : tookE l (tkL l net prot l.length) ≠ 0) :
  Calls prog 108 #[.int .i64 net, .int .i64 prot, .pointer (some ⟨p, 0, none⟩)] w fun e w' => (e = .returned (.tuple #[.slice none 0 0, .int .i64 0, .int .i64 10]) ∧ Bk w' p l) ∧ w.grownBy w' (some p) := by
 have hlen := hg.len
 obtain ⟨h10, hll⟩ := took_turn_f hg.ids (turn_tk l net prot) ht
 obtain ⟨n, hn⟩ : ∃ n, n = l.length := ⟨_, rfl⟩
 have KL := blist_c p l w hb (by omega)
 unfold GivesOd at KL
 rw [← hn] at KL hlen
 have HKL := hid KL
 have KS := hid (fun A c W hs => serve_yes net prot A n c l W hs (od_of hg hn) (by omega) h)
 have HBK := hid hb
 have KT : Hid (∀ A c W, Bk W p l → TkSl W A n (tkL l net prot n) → Calls prog 150 #[.pointer (some ⟨p, 0, none⟩), .slice A n c] W fun e w' => e = .returned (.int .i64 10) ∧ Bk w' p l ∧ W.grownBy w' (some p)) := fun A c W hk hs => by
  have := btook_c p l A n c _ W hk (by omega) hs
  rw [hn] at this ⊢
  refine this.mono ?_
  unfold TookR
  rw [h10, hll]
  exact fun e w' h => h
 clear KL h ht hn hb h10 hll
 go_enter func108, ntmps108
 go_wp2_with fail
 refine HKL.out.mono ?_
 rintro e w1 ⟨⟨v1, rfl, ho⟩, hb1⟩
 obtain ⟨A1, c1, rfl⟩ := oL9 ho.2
 have HS := hid (own_at ho)
 have HB1 := hid hb1
 clear ho hb1
 go_wp2_with fail
 refine (KS.out A1 c1 _ HS.out).mono ?_
 rintro e w2 ⟨v2, ⟨rfl, ho2⟩, hb2⟩
 obtain ⟨A2, c2, rfl⟩ := oL9 ho2.2
 obtain ⟨_, _, he, hsl⟩ := ho2.sl
 injection he with e1 _ e2
 subst e1; subst e2
 have HB2 := hid (bT HB1.out hb2)
 have HSL := hid hsl
 clear hb2 ho2 hsl
 go_wp2_with fail
 refine (KT.out A2 c2 _ (HBK.out.t HB2.out) HSL.out).mono ?_
 rintro e w3 ⟨rfl, hk3, hg3⟩
 have HG := hid ((grown_of_below HB2.out (some p)).trans hg3)
 have HK := hid hk3
 clear hk3 hg3
 go_wp2_with fail
 go_ret3
 exact ⟨⟨rfl, HK.out⟩, HG.out⟩
theorem abook_t (net prot : Int) (p : Nat) (l : List Od) (w : World) (hb : Bk w p l) (hg : GoodA l) (h : serveE l net prot = 0) (ht : tookE l (tkL l net prot l.length) = 0) :
  Calls prog 108 #[.int .i64 net, .int .i64 prot, .pointer (some ⟨p, 0, none⟩)] w fun e w' => ∃ v, (e = .returned (.tuple #[v, .int .i64 (leftA l net prot l.length), .int .i64 0]) ∧ OwnTk w' w.heap.size v l.length (tkL l net prot l.length) ∧ Bk w' p (tookL l (tkL l net prot l.length))) ∧ w.grownBy w' (some p) := by
 have hlen := hg.len
 obtain ⟨n, hn⟩ : ∃ n, n = l.length := ⟨_, rfl⟩
 have KL := blist_c p l w hb (by omega)
 unfold GivesOd at KL
 rw [← hn] at KL hlen ht ⊢
 have HKL := hid KL
 have KS := hid (fun A c W hs => serve_yes net prot A n c l W hs (od_of hg hn) (by omega) h)
 have HBK := hid hb
 have hplt := hb.lt
 have KT : Hid (∀ A c W, Bk W p l → TkSl W A n (tkL l net prot n) → Calls prog 150 #[.pointer (some ⟨p, 0, none⟩), .slice A n c] W fun e w' => e = .returned (.int .i64 0) ∧ Bk w' p (tookL l (tkL l net prot n)) ∧ W.grownBy w' (some p)) := fun A c W hk hs => by
  refine (btook_c p l A n c _ W hk (by omega) hs).mono ?_
  unfold TookR
  rw [ht]
  exact fun e w' h => h
 clear KL h ht hn hb
 go_enter func108, ntmps108
 go_wp2_with fail
 refine HKL.out.mono ?_
 rintro e w1 ⟨⟨v1, rfl, ho⟩, hb1⟩
 obtain ⟨A1, c1, rfl⟩ := oL9 ho.2
 have HS := hid (own_at ho)
 have HB1 := hid hb1
 have hs1 := hb1.size
 clear ho hb1
 go_wp2_with fail
 refine (KS.out A1 c1 _ HS.out).mono ?_
 rintro e w2 ⟨v2, ⟨rfl, ho2⟩, hb2⟩
 obtain ⟨A2, c2, rfl⟩ := oL9 ho2.2
 obtain ⟨_, _, he, hsl⟩ := ho2.sl
 injection he with e1 _ e2
 subst e1; subst e2
 have HB2 := hid (bT HB1.out hb2)
 have HSL := hid hsl
 have HO2 := hid ho2
 have HK2 := hid (HBK.out.t HB2.out)
 clear hb2 ho2 hsl
 go_wp2_with fail
 refine (KT.out A2 c2 _ HK2.out HSL.out).mono ?_
 rintro e w3 ⟨rfl, hk3, hg3⟩
 have HG := hid ((grown_of_below HB2.out (some p)).trans hg3)
 have HK := hid hk3
 have HO3 : Hid (OwnTk w3 w.heap.size (.slice A2 n c2) n (tkL l net prot n)) := by
  obtain ⟨u, h1, h2⟩ := HK2.out
  have ho := HO2.out
  exact ⟨ho.1, oM9 (ho.2.kept hg3 (Or.inr fun he => own_blk ho.2 h1 (by decide) he.symm)) hs1⟩
 clear hk3 hg3 hplt
 go_wp2_with fail
 go_ret3
 exact ⟨_, ⟨rfl, HO3.out, HK.out⟩, HG.out⟩
theorem kA {X : Nat → Prop} {w0 w : World} (h : Kp w0.heap.size X w0 w) (o : Obj) : Kp w0.heap.size X w0 (w.alloc o) := h.alloc (Nat.le_refl _) o
theorem kT {X : Nat → Prop} {w0 w w' : World} (h : Kp w0.heap.size X w0 w) (hb : Below w.heap.size w w') : Kp w0.heap.size X w0 w' := h.trans (Kp.below hb h.size)
theorem kD {X : Nat → Prop} {w0 w : World} (h : Kp w0.heap.size X w0 w) (n : Nat) : Kp w0.heap.size X w0 (w.drewN n) := ⟨h.os, h.tape, h.output, h.size, h.block⟩
theorem kS {X : Nat → Prop} {w0 w : World} (h : Kp w0.heap.size X w0 w) {p : Addr} (hp : w0.heap.size ≤ p.block ∨ X p.block) (v : Value) : Kp w0.heap.size X w0 (w.setCell p v) := h.set hp v
theorem kSg {X : Nat → Prop} {w0 w : World} {g : Nat} (h : Kp w0.heap.size X w0 w) (hg : w0.heap.size ≤ g ∨ X g) (j : Nat) (v : Value) : Kp w0.heap.size X w0 (w.setCell ⟨g, j, none⟩ v) := kS h (p := ⟨g, j, none⟩) hg v
theorem kK {X : Nat → Prop} {w0 w w' : World} (h : Kp w0.heap.size X w0 w) {Y : Nat → Prop} (hk : Kp w.heap.size Y w w') (hXY : ∀ g, g < w0.heap.size → Y g → X g) : Kp w0.heap.size X w0 w' :=
 ⟨hk.os.trans h.os, hk.tape.trans h.tape, hk.output.trans h.output, Nat.le_trans h.size hk.size, fun k hk' hx => (hk.block k (Nat.lt_of_lt_of_le hk' h.size) (fun hy => hx (hXY k hk' hy))).trans (h.block k hk' hx)⟩
structure FrK (X : Nat → Prop) (w0 w : World) (l : List (Nat × TypeId × Array Value)) : Prop where
 bl : Kp w0.heap.size X w0 w
 at' : ∀ (i : Nat) (x : Nat × TypeId × Array Value), l[i]? = some x → w0.heap.size ≤ x.1 ∧ Blk w x.1 x.2.1 x.2.2
 ne : l.Pairwise (fun a b => a.1 < b.1)
theorem FrK.start (X : Nat → Prop) (w : World) : FrK X w w [] := ⟨Kp.refl _ _ _, fun i x h => by simp at h, List.Pairwise.nil⟩
theorem FrK.b {X : Nat → Prop} {w0 w : World} {l : List (Nat × TypeId × Array Value)} (h : FrK X w0 w l) (i : Nat) {g : Nat} {T : TypeId} {cs : Array Value} (hi : l[i]? = some (g, T, cs)) : Blk w g T cs := (h.at' i _ hi).2
theorem FrK.ge {X : Nat → Prop} {w0 w : World} {l : List (Nat × TypeId × Array Value)} (h : FrK X w0 w l) (i : Nat) {g : Nat} {T : TypeId} {cs : Array Value} (hi : l[i]? = some (g, T, cs)) : w0.heap.size ≤ g := (h.at' i _ hi).1
theorem FrK.lt {X : Nat → Prop} {w0 w : World} {l : List (Nat × TypeId × Array Value)} (h : FrK X w0 w l) (i : Nat) {g : Nat} {T : TypeId} {cs : Array Value} (hi : l[i]? = some (g, T, cs)) : g < w.heap.size := (h.b i hi).lt
theorem FrK.al {X : Nat → Prop} {w0 w : World} {l : List (Nat × TypeId × Array Value)} (h : FrK X w0 w l) (T : TypeId) (cs : Array Value) : FrK X w0 (w.alloc (.cells cs T)) (l ++ [(w.heap.size, T, cs)]) := by
 refine ⟨kA h.bl _, fun i x hi => ?_, ?_⟩
 ·
  by_cases hl : i < l.length
  ·
   rw [List.getElem?_append_left hl] at hi
   have := h.at' i x hi
   exact ⟨this.1, this.2.alloc _⟩
  ·
   rw [List.getElem?_append_right (by omega)] at hi
   have h0 : i - l.length = 0 := by
    rcases Nat.eq_zero_or_pos (i - l.length) with h1 | h1
    ·
     exact h1
    ·
     rw [List.getElem?_eq_none (by simp; omega)] at hi; cases hi
   rw [h0] at hi
   simp only [List.getElem?_cons_zero, Option.some.injEq] at hi
   subst hi
   exact ⟨h.bl.size, Blk.mk w T cs⟩
 ·
  refine List.pairwise_append.2 ⟨h.ne, List.pairwise_singleton _ _, fun a ha b hb => ?_⟩
  rw [List.mem_singleton] at hb
  subst hb
  obtain ⟨i, hi⟩ := List.getElem?_of_mem ha
  exact (h.at' i a hi).2.lt
theorem FrK.ca {X : Nat → Prop} {w0 w w' : World} {l : List (Nat × TypeId × Array Value)} (h : FrK X w0 w l) (hb : Below w.heap.size w w') : FrK X w0 w' l :=
 ⟨kT h.bl hb, fun i x hi => ⟨(h.at' i x hi).1, (h.at' i x hi).2.t hb⟩, h.ne⟩
theorem FrK.dr {X : Nat → Prop} {w0 w : World} {l : List (Nat × TypeId × Array Value)} (h : FrK X w0 w l) : FrK X w0 w.drew l :=
 ⟨kD h.bl 1, fun i x hi => ⟨(h.at' i x hi).1, (h.at' i x hi).2.drewN 1⟩, h.ne⟩
theorem FrK.drN {X : Nat → Prop} {w0 w : World} {l : List (Nat × TypeId × Array Value)} (h : FrK X w0 w l) (n : Nat) : FrK X w0 (w.drewN n) l :=
 ⟨kD h.bl n, fun i x hi => ⟨(h.at' i x hi).1, (h.at' i x hi).2.drewN n⟩, h.ne⟩
theorem FrK.cut {X : Nat → Prop} {w0 w : World} {l : List (Nat × TypeId × Array Value)} (h : FrK X w0 w l) (k : Nat) : FrK X w0 w (l.take k) :=
 ⟨h.bl, fun i x hi => h.at' i x (by
  rw [List.getElem?_take] at hi
  split at hi
  ·
   exact hi
  ·
   cases hi), h.ne.sublist (List.take_sublist k l)⟩
theorem FrK.st {X : Nat → Prop} {w0 w : World} {l : List (Nat × TypeId × Array Value)} (h : FrK X w0 w l) (i : Nat) {g : Nat} {T : TypeId} {cs : Array Value} (hi : l[i]? = some (g, T, cs)) (j : Nat) (v : Value) : FrK X w0 (w.setCell ⟨g, j, none⟩ v) (l.set i (g, T, cs.setIfInBounds j v)) := by
 have hil : i < l.length := by
  rcases Nat.lt_or_ge i l.length with h1 | h1
  ·
   exact h1
  ·
   rw [List.getElem?_eq_none h1] at hi; cases hi
 have hgi : l[i] = (g, T, cs) := by rw [List.getElem?_eq_getElem hil] at hi; exact Option.some.inj hi
 refine ⟨kS h.bl (p := ⟨g, j, none⟩) (Or.inl (h.ge i hi)) v, fun k x hk => ?_, ?_⟩
 ·
  rw [List.getElem?_set] at hk
  by_cases hik : i = k
  ·
   subst hik
   rw [if_pos rfl, if_pos hil] at hk
   injection hk with hk
   subst hk
   exact ⟨h.ge i hi, (h.b i hi).setJ j v⟩
  ·
   rw [if_neg hik] at hk
   have hx := h.at' k x hk
   refine ⟨hx.1, hx.2.setO ?_ j v⟩
   have hkl : k < l.length := by
    rcases Nat.lt_or_ge k l.length with h1 | h1
    ·
     exact h1
    ·
     rw [List.getElem?_eq_none h1] at hk; cases hk
   have hgk : l[k] = x := by rw [List.getElem?_eq_getElem hkl] at hk; exact Option.some.inj hk
   have hp := List.pairwise_iff_getElem.1 h.ne
   rcases Nat.lt_or_gt_of_ne hik with h1 | h1
   ·
    have := hp i k hil hkl h1
    rw [hgi, hgk] at this
    dsimp only at this
    omega
   ·
    have := hp k i hkl hil h1
    rw [hgi, hgk] at this
    dsimp only at this
    omega
 ·
  have e : (l.set i (g, T, cs.setIfInBounds j v)).map (·.1) = l.map (·.1) := by
   rw [List.map_set]
   apply List.ext_getElem
   ·
    simp
   ·
    intro n h1 h2
    rw [List.getElem_set]
    by_cases hn : i = n
    ·
     subst hn; rw [if_pos rfl, List.getElem_map, hgi]
    ·
     rw [if_neg hn]
  have hp : (l.map (·.1)).Pairwise (· < ·) := List.pairwise_map.2 h.ne
  rw [← e] at hp
  exact List.pairwise_map.1 hp
theorem FrK.upd {X : Nat → Prop} {w0 w w' : World} {l : List (Nat × TypeId × Array Value)} (h : FrK X w0 w l) (i : Nat) {g : Nat} {T : TypeId} {cs cs' : Array Value} (hi : l[i]? = some (g, T, cs)) (hg : w.grownBy w' (some g)) (hbl : Kp w0.heap.size X w0 w') (hk : Blk w' g T cs') : FrK X w0 w' (l.set i (g, T, cs')) := by
 have hil : i < l.length := by
  rcases Nat.lt_or_ge i l.length with h1 | h1
  ·
   exact h1
  ·
   rw [List.getElem?_eq_none h1] at hi; cases hi
 have hgi : l[i] = (g, T, cs) := by rw [List.getElem?_eq_getElem hil] at hi; exact Option.some.inj hi
 refine ⟨hbl, fun k x hk' => ?_, ?_⟩
 ·
  rw [List.getElem?_set] at hk'
  by_cases hik : i = k
  ·
   subst hik
   rw [if_pos rfl, if_pos hil] at hk'
   injection hk' with hk'
   subst hk'
   exact ⟨h.ge i hi, hk⟩
  ·
   rw [if_neg hik] at hk'
   have hx := h.at' k x hk'
   have hkl : k < l.length := by
    rcases Nat.lt_or_ge k l.length with h1 | h1
    ·
     exact h1
    ·
     rw [List.getElem?_eq_none h1] at hk'; cases hk'
   have hgk : l[k] = x := by rw [List.getElem?_eq_getElem hkl] at hk'; exact Option.some.inj hk'
   have hp := List.pairwise_iff_getElem.1 h.ne
   refine ⟨hx.1, hx.2.grown hg ?_⟩
   intro he
   injection he with he
   rcases Nat.lt_or_gt_of_ne hik with h1 | h1
   ·
    have := hp i k hil hkl h1
    rw [hgi, hgk] at this
    dsimp only at this
    omega
   ·
    have := hp k i hkl hil h1
    rw [hgi, hgk] at this
    dsimp only at this
    omega
 ·
  have e : (l.set i (g, T, cs')).map (·.1) = l.map (·.1) := by
   rw [List.map_set]
   apply List.ext_getElem
   ·
    simp
   ·
    intro n h1 h2
    rw [List.getElem_set]
    by_cases hn : i = n
    ·
     subst hn; rw [if_pos rfl, List.getElem_map, hgi]
    ·
     rw [if_neg hn]
  have hp : (l.map (·.1)).Pairwise (· < ·) := List.pairwise_map.2 h.ne
  rw [← e] at hp
  exact List.pairwise_map.1 hp
theorem Fr.k {w0 w : World} {l : List (Nat × TypeId × Array Value)} (h : Fr w0 w l) (X : Nat → Prop) : FrK X w0 w l := ⟨Kp.below h.bl (Nat.le_refl _), h.at', h.ne⟩
theorem FrK.mut {X : Nat → Prop} {w0 w : World} {l : List (Nat × TypeId × Array Value)} (h : FrK X w0 w l) {g : Nat} (hg : g < w0.heap.size) (hX : X g) (j : Nat) (v : Value) : FrK X w0 (w.setCell ⟨g, j, none⟩ v) l :=
 ⟨kSg h.bl (Or.inr hX) j v, fun i x hi => ⟨(h.at' i x hi).1, (h.at' i x hi).2.setO (by have := (h.at' i x hi).1; omega) j v⟩, h.ne⟩
theorem FrK.act {X Y : Nat → Prop} {w0 w w' : World} {l : List (Nat × TypeId × Array Value)} (h : FrK X w0 w l) (hk : Kp w.heap.size Y w w') (hXY : ∀ g, g < w0.heap.size → Y g → X g) (hY : ∀ x ∈ l, ¬ Y x.1) : FrK X w0 w' l :=
 ⟨kK h.bl hk hXY, fun i x hi => ⟨(h.at' i x hi).1, (h.at' i x hi).2.kp hk (h.at' i x hi).2.lt (hY x (List.mem_of_getElem? hi))⟩, h.ne⟩
def setL (w : World) (g : Nat) : Nat → List Value → World
 | _, [] => w
 | j, v :: vs => setL (w.setCell ⟨g, j, none⟩ v) g (j + 1) vs
theorem sg9 (g : Nat) : ∀ (vs : List Value) (w : World) (j : Nat), w.grownBy (setL w g j vs) (some g)
 | [], w, _ => World.grownBy.refl w _
 | v :: vs, w, j => (gJ9 w g j v).trans (sg9 g vs _ (j + 1))
theorem setL_own {base size n g : Nat} {e t : TypeId} {cs : Array Value} {v : Value} {xs : List Value} {w : World} (h : w.ownsRow base e size v n xs) (hk : Blk w g t cs) (hne : e ≠ t) (vs : List Value) (j : Nat) : (setL w g j vs).ownsRow base e size v n xs :=
 h.kept (sg9 g vs w j) (Or.inr (own_blk h hk hne).symm)
theorem setL_other {g g' : Nat} {t : TypeId} {cs : Array Value} {w : World} (h : Blk w g' t cs) (hne : g' ≠ g) (vs : List Value) (j : Nat) : Blk (setL w g j vs) g' t cs := h.grown (sg9 g vs w j) (by simpa using hne)
theorem setL_below {g : Nat} {w0 w : World} (h : Below w0.heap.size w0 w) (hg : w0.heap.size ≤ g) (vs : List Value) (j : Nat) : Below w0.heap.size w0 (setL w g j vs) := h.grown (sg9 g vs w j) h.size (fun k hk => by injection hk with hk; omega)
theorem setL_kp {g : Nat} {X : Nat → Prop} {w0 w : World} (h : Kp w0.heap.size X w0 w) (hg : w0.heap.size ≤ g ∨ X g) (vs : List Value) (j : Nat) : Kp w0.heap.size X w0 (setL w g j vs) :=
 h.trans (Kp.grown (sg9 g vs w j) h.size (fun k hk => by injection hk with hk; subst hk; exact hg))
theorem FrK.mutL {X : Nat → Prop} {w0 w : World} {l : List (Nat × TypeId × Array Value)} (h : FrK X w0 w l) {g : Nat} (hg : g < w0.heap.size) (hX : X g) (j : Nat) (vs : List Value) : FrK X w0 (setL w g j vs) l :=
 ⟨setL_kp h.bl (Or.inr hX) vs j, fun i x hi => ⟨(h.at' i x hi).1, setL_other (h.at' i x hi).2 (by have := (h.at' i x hi).1; omega) vs j⟩, h.ne⟩
theorem own_cap {w : World} {base size n c : Nat} {e : TypeId} {A : Option Addr} {xs : List Value} (h : w.ownsRow base e size (.slice A n c) n xs) : n ≤ c := by
 rcases h.2 with ⟨_, h2⟩ | ⟨g, cap, cur, h1, _, _, h2, _⟩
 ·
  omega
 ·
  injection h1 with _ _ h3
  omega
theorem Blk.af3 {w : World} {g : Nat} {t : TypeId} {a0 a1 a2 : Value} (x : Blk w g t #[a0, a1, a2]) : w.cell? ⟨g, 0, none⟩ = some a0 ∧ w.cell? ⟨g, 1, none⟩ = some a1 ∧ w.cell? ⟨g, 2, none⟩ = some a2 ∧ w.frozen? ⟨g, 0, none⟩ = false ∧ w.frozen? ⟨g, 1, none⟩ = false ∧ w.frozen? ⟨g, 2, none⟩ = false :=
 ⟨x.cell 0, x.cell 1, x.cell 2, x.free 0, x.free 1, x.free 2⟩
theorem Blk.af6 {w : World} {g : Nat} {t : TypeId} {a0 a1 a2 a3 a4 a5 : Value} (x : Blk w g t #[a0, a1, a2, a3, a4, a5]) : w.cell? ⟨g, 0, none⟩ = some a0 ∧ w.cell? ⟨g, 1, none⟩ = some a1 ∧ w.cell? ⟨g, 2, none⟩ = some a2 ∧ w.cell? ⟨g, 3, none⟩ = some a3 ∧ w.cell? ⟨g, 4, none⟩ = some a4 ∧ w.cell? ⟨g, 5, none⟩ = some a5 ∧ w.frozen? ⟨g, 0, none⟩ = false ∧ w.frozen? ⟨g, 1, none⟩ = false ∧ w.frozen? ⟨g, 2, none⟩ = false ∧ w.frozen? ⟨g, 3, none⟩ = false ∧ w.frozen? ⟨g, 4, none⟩ = false ∧ w.frozen? ⟨g, 5, none⟩ = false :=
 ⟨x.cell 0, x.cell 1, x.cell 2, x.cell 3, x.cell 4, x.cell 5, x.free 0, x.free 1, x.free 2, x.free 3, x.free 4, x.free 5⟩
theorem Blk.af9 {w : World} {g : Nat} {t : TypeId} {a0 a1 a2 a3 a4 a5 a6 a7 a8 : Value} (x : Blk w g t #[a0, a1, a2, a3, a4, a5, a6, a7, a8]) : w.cell? ⟨g, 0, none⟩ = some a0 ∧ w.cell? ⟨g, 1, none⟩ = some a1 ∧ w.cell? ⟨g, 2, none⟩ = some a2 ∧ w.cell? ⟨g, 3, none⟩ = some a3 ∧ w.cell? ⟨g, 4, none⟩ = some a4 ∧ w.cell? ⟨g, 5, none⟩ = some a5 ∧ w.cell? ⟨g, 6, none⟩ = some a6 ∧ w.cell? ⟨g, 7, none⟩ = some a7 ∧ w.cell? ⟨g, 8, none⟩ = some a8 ∧ w.frozen? ⟨g, 0, none⟩ = false ∧ w.frozen? ⟨g, 1, none⟩ = false ∧ w.frozen? ⟨g, 2, none⟩ = false ∧ w.frozen? ⟨g, 3, none⟩ = false ∧ w.frozen? ⟨g, 4, none⟩ = false ∧ w.frozen? ⟨g, 5, none⟩ = false ∧ w.frozen? ⟨g, 6, none⟩ = false ∧ w.frozen? ⟨g, 7, none⟩ = false ∧ w.frozen? ⟨g, 8, none⟩ = false :=
 ⟨x.cell 0, x.cell 1, x.cell 2, x.cell 3, x.cell 4, x.cell 5, x.cell 6, x.cell 7, x.cell 8, x.free 0, x.free 1, x.free 2, x.free 3, x.free 4, x.free 5, x.free 6, x.free 7, x.free 8⟩
theorem Blk.af10 {w : World} {g : Nat} {t : TypeId} {a0 a1 a2 a3 a4 a5 a6 a7 a8 a9 : Value} (x : Blk w g t #[a0, a1, a2, a3, a4, a5, a6, a7, a8, a9]) : w.cell? ⟨g, 0, none⟩ = some a0 ∧ w.cell? ⟨g, 1, none⟩ = some a1 ∧ w.cell? ⟨g, 2, none⟩ = some a2 ∧ w.cell? ⟨g, 3, none⟩ = some a3 ∧ w.cell? ⟨g, 4, none⟩ = some a4 ∧ w.cell? ⟨g, 5, none⟩ = some a5 ∧ w.cell? ⟨g, 6, none⟩ = some a6 ∧ w.cell? ⟨g, 7, none⟩ = some a7 ∧ w.cell? ⟨g, 8, none⟩ = some a8 ∧ w.cell? ⟨g, 9, none⟩ = some a9 ∧ w.frozen? ⟨g, 0, none⟩ = false ∧ w.frozen? ⟨g, 1, none⟩ = false ∧ w.frozen? ⟨g, 2, none⟩ = false ∧ w.frozen? ⟨g, 3, none⟩ = false ∧ w.frozen? ⟨g, 4, none⟩ = false ∧ w.frozen? ⟨g, 5, none⟩ = false ∧ w.frozen? ⟨g, 6, none⟩ = false ∧ w.frozen? ⟨g, 7, none⟩ = false ∧ w.frozen? ⟨g, 8, none⟩ = false ∧ w.frozen? ⟨g, 9, none⟩ = false :=
 ⟨x.cell 0, x.cell 1, x.cell 2, x.cell 3, x.cell 4, x.cell 5, x.cell 6, x.cell 7, x.cell 8, x.cell 9, x.free 0, x.free 1, x.free 2, x.free 3, x.free 4, x.free 5, x.free 6, x.free 7, x.free 8, x.free 9⟩
--<<put
theorem Blk.put6 {W : World} {g : Nat} {t : TypeId} {a0 a1 a2 a3 a4 a5 : Value} (hk : Blk W g t #[a0, a1, a2, a3, a4, a5]) (v0 v1 v2 v3 v4 v5 : Value) : Blk (((((((W).setCell ⟨g, 0, none⟩ v0).setCell ⟨g, 1, none⟩ v1).setCell ⟨g, 2, none⟩ v2).setCell ⟨g, 3, none⟩ v3).setCell ⟨g, 4, none⟩ v4).setCell ⟨g, 5, none⟩ v5) g t #[v0, v1, v2, v3, v4, v5] := by
 have h0 : Blk _ g t #[v0, a1, a2, a3, a4, a5] := hk.setJ 0 v0
 have h1 : Blk _ g t #[v0, v1, a2, a3, a4, a5] := h0.setJ 1 v1
 have h2 : Blk _ g t #[v0, v1, v2, a3, a4, a5] := h1.setJ 2 v2
 have h3 : Blk _ g t #[v0, v1, v2, v3, a4, a5] := h2.setJ 3 v3
 have h4 : Blk _ g t #[v0, v1, v2, v3, v4, a5] := h3.setJ 4 v4
 have h5 : Blk _ g t #[v0, v1, v2, v3, v4, v5] := h4.setJ 5 v5
 exact h5
theorem own_put6 {W : World} {base size n g : Nat} {e t : TypeId} {cs : Array Value} {v : Value} {xs : List Value} (h : W.ownsRow base e size v n xs) (hk : Blk W g t cs) (hne : e ≠ t) (v0 v1 v2 v3 v4 v5 : Value) : (((((((W).setCell ⟨g, 0, none⟩ v0).setCell ⟨g, 1, none⟩ v1).setCell ⟨g, 2, none⟩ v2).setCell ⟨g, 3, none⟩ v3).setCell ⟨g, 4, none⟩ v4).setCell ⟨g, 5, none⟩ v5).ownsRow base e size v n xs := setL_own h hk hne [v0, v1, v2, v3, v4, v5] 0
theorem below_put6 {w0 W : World} {g : Nat} (h : Below w0.heap.size w0 W) (hg : w0.heap.size ≤ g) (v0 v1 v2 v3 v4 v5 : Value) : Below w0.heap.size w0 (((((((W).setCell ⟨g, 0, none⟩ v0).setCell ⟨g, 1, none⟩ v1).setCell ⟨g, 2, none⟩ v2).setCell ⟨g, 3, none⟩ v3).setCell ⟨g, 4, none⟩ v4).setCell ⟨g, 5, none⟩ v5) := setL_below h hg [v0, v1, v2, v3, v4, v5] 0
theorem kp_put6 {X : Nat → Prop} {w0 W : World} {g : Nat} (h : Kp w0.heap.size X w0 W) (hg : w0.heap.size ≤ g ∨ X g) (v0 v1 v2 v3 v4 v5 : Value) : Kp w0.heap.size X w0 (((((((W).setCell ⟨g, 0, none⟩ v0).setCell ⟨g, 1, none⟩ v1).setCell ⟨g, 2, none⟩ v2).setCell ⟨g, 3, none⟩ v3).setCell ⟨g, 4, none⟩ v4).setCell ⟨g, 5, none⟩ v5) := setL_kp h hg [v0, v1, v2, v3, v4, v5] 0
theorem Fr.put6 {w0 W : World} {l : List (Nat × TypeId × Array Value)} (x : Fr w0 W l) (i : Nat) {g : Nat} {t : TypeId} {a0 a1 a2 a3 a4 a5 : Value} (hi : l[i]? = some (g, t, #[a0, a1, a2, a3, a4, a5])) (v0 v1 v2 v3 v4 v5 : Value) : Fr w0 (((((((W).setCell ⟨g, 0, none⟩ v0).setCell ⟨g, 1, none⟩ v1).setCell ⟨g, 2, none⟩ v2).setCell ⟨g, 3, none⟩ v3).setCell ⟨g, 4, none⟩ v4).setCell ⟨g, 5, none⟩ v5) (l.set i (g, t, #[v0, v1, v2, v3, v4, v5])) :=
 x.upd i hi (sg9 g [v0, v1, v2, v3, v4, v5] W 0) (below_put6 x.bl (x.ge i hi) v0 v1 v2 v3 v4 v5) ((x.b i hi).put6 v0 v1 v2 v3 v4 v5)
theorem FrK.put6 {X : Nat → Prop} {w0 W : World} {l : List (Nat × TypeId × Array Value)} (x : FrK X w0 W l) (i : Nat) {g : Nat} {t : TypeId} {a0 a1 a2 a3 a4 a5 : Value} (hi : l[i]? = some (g, t, #[a0, a1, a2, a3, a4, a5])) (v0 v1 v2 v3 v4 v5 : Value) : FrK X w0 (((((((W).setCell ⟨g, 0, none⟩ v0).setCell ⟨g, 1, none⟩ v1).setCell ⟨g, 2, none⟩ v2).setCell ⟨g, 3, none⟩ v3).setCell ⟨g, 4, none⟩ v4).setCell ⟨g, 5, none⟩ v5) (l.set i (g, t, #[v0, v1, v2, v3, v4, v5])) :=
 x.upd i hi (sg9 g [v0, v1, v2, v3, v4, v5] W 0) (kp_put6 x.bl (Or.inl (x.ge i hi)) v0 v1 v2 v3 v4 v5) ((x.b i hi).put6 v0 v1 v2 v3 v4 v5)
theorem Blk.put9 {W : World} {g : Nat} {t : TypeId} {a0 a1 a2 a3 a4 a5 a6 a7 a8 : Value} (hk : Blk W g t #[a0, a1, a2, a3, a4, a5, a6, a7, a8]) (v0 v1 v2 v3 v4 v5 v6 v7 v8 : Value) : Blk ((((((((((W).setCell ⟨g, 0, none⟩ v0).setCell ⟨g, 1, none⟩ v1).setCell ⟨g, 2, none⟩ v2).setCell ⟨g, 3, none⟩ v3).setCell ⟨g, 4, none⟩ v4).setCell ⟨g, 5, none⟩ v5).setCell ⟨g, 6, none⟩ v6).setCell ⟨g, 7, none⟩ v7).setCell ⟨g, 8, none⟩ v8) g t #[v0, v1, v2, v3, v4, v5, v6, v7, v8] := by
 have h0 : Blk _ g t #[v0, a1, a2, a3, a4, a5, a6, a7, a8] := hk.setJ 0 v0
 have h1 : Blk _ g t #[v0, v1, a2, a3, a4, a5, a6, a7, a8] := h0.setJ 1 v1
 have h2 : Blk _ g t #[v0, v1, v2, a3, a4, a5, a6, a7, a8] := h1.setJ 2 v2
 have h3 : Blk _ g t #[v0, v1, v2, v3, a4, a5, a6, a7, a8] := h2.setJ 3 v3
 have h4 : Blk _ g t #[v0, v1, v2, v3, v4, a5, a6, a7, a8] := h3.setJ 4 v4
 have h5 : Blk _ g t #[v0, v1, v2, v3, v4, v5, a6, a7, a8] := h4.setJ 5 v5
 have h6 : Blk _ g t #[v0, v1, v2, v3, v4, v5, v6, a7, a8] := h5.setJ 6 v6
 have h7 : Blk _ g t #[v0, v1, v2, v3, v4, v5, v6, v7, a8] := h6.setJ 7 v7
 have h8 : Blk _ g t #[v0, v1, v2, v3, v4, v5, v6, v7, v8] := h7.setJ 8 v8
 exact h8
theorem own_put9 {W : World} {base size n g : Nat} {e t : TypeId} {cs : Array Value} {v : Value} {xs : List Value} (h : W.ownsRow base e size v n xs) (hk : Blk W g t cs) (hne : e ≠ t) (v0 v1 v2 v3 v4 v5 v6 v7 v8 : Value) : ((((((((((W).setCell ⟨g, 0, none⟩ v0).setCell ⟨g, 1, none⟩ v1).setCell ⟨g, 2, none⟩ v2).setCell ⟨g, 3, none⟩ v3).setCell ⟨g, 4, none⟩ v4).setCell ⟨g, 5, none⟩ v5).setCell ⟨g, 6, none⟩ v6).setCell ⟨g, 7, none⟩ v7).setCell ⟨g, 8, none⟩ v8).ownsRow base e size v n xs := setL_own h hk hne [v0, v1, v2, v3, v4, v5, v6, v7, v8] 0
theorem below_put9 {w0 W : World} {g : Nat} (h : Below w0.heap.size w0 W) (hg : w0.heap.size ≤ g) (v0 v1 v2 v3 v4 v5 v6 v7 v8 : Value) : Below w0.heap.size w0 ((((((((((W).setCell ⟨g, 0, none⟩ v0).setCell ⟨g, 1, none⟩ v1).setCell ⟨g, 2, none⟩ v2).setCell ⟨g, 3, none⟩ v3).setCell ⟨g, 4, none⟩ v4).setCell ⟨g, 5, none⟩ v5).setCell ⟨g, 6, none⟩ v6).setCell ⟨g, 7, none⟩ v7).setCell ⟨g, 8, none⟩ v8) := setL_below h hg [v0, v1, v2, v3, v4, v5, v6, v7, v8] 0
theorem kp_put9 {X : Nat → Prop} {w0 W : World} {g : Nat} (h : Kp w0.heap.size X w0 W) (hg : w0.heap.size ≤ g ∨ X g) (v0 v1 v2 v3 v4 v5 v6 v7 v8 : Value) : Kp w0.heap.size X w0 ((((((((((W).setCell ⟨g, 0, none⟩ v0).setCell ⟨g, 1, none⟩ v1).setCell ⟨g, 2, none⟩ v2).setCell ⟨g, 3, none⟩ v3).setCell ⟨g, 4, none⟩ v4).setCell ⟨g, 5, none⟩ v5).setCell ⟨g, 6, none⟩ v6).setCell ⟨g, 7, none⟩ v7).setCell ⟨g, 8, none⟩ v8) := setL_kp h hg [v0, v1, v2, v3, v4, v5, v6, v7, v8] 0
theorem Fr.put9 {w0 W : World} {l : List (Nat × TypeId × Array Value)} (x : Fr w0 W l) (i : Nat) {g : Nat} {t : TypeId} {a0 a1 a2 a3 a4 a5 a6 a7 a8 : Value} (hi : l[i]? = some (g, t, #[a0, a1, a2, a3, a4, a5, a6, a7, a8])) (v0 v1 v2 v3 v4 v5 v6 v7 v8 : Value) : Fr w0 ((((((((((W).setCell ⟨g, 0, none⟩ v0).setCell ⟨g, 1, none⟩ v1).setCell ⟨g, 2, none⟩ v2).setCell ⟨g, 3, none⟩ v3).setCell ⟨g, 4, none⟩ v4).setCell ⟨g, 5, none⟩ v5).setCell ⟨g, 6, none⟩ v6).setCell ⟨g, 7, none⟩ v7).setCell ⟨g, 8, none⟩ v8) (l.set i (g, t, #[v0, v1, v2, v3, v4, v5, v6, v7, v8])) :=
 x.upd i hi (sg9 g [v0, v1, v2, v3, v4, v5, v6, v7, v8] W 0) (below_put9 x.bl (x.ge i hi) v0 v1 v2 v3 v4 v5 v6 v7 v8) ((x.b i hi).put9 v0 v1 v2 v3 v4 v5 v6 v7 v8)
theorem FrK.put9 {X : Nat → Prop} {w0 W : World} {l : List (Nat × TypeId × Array Value)} (x : FrK X w0 W l) (i : Nat) {g : Nat} {t : TypeId} {a0 a1 a2 a3 a4 a5 a6 a7 a8 : Value} (hi : l[i]? = some (g, t, #[a0, a1, a2, a3, a4, a5, a6, a7, a8])) (v0 v1 v2 v3 v4 v5 v6 v7 v8 : Value) : FrK X w0 ((((((((((W).setCell ⟨g, 0, none⟩ v0).setCell ⟨g, 1, none⟩ v1).setCell ⟨g, 2, none⟩ v2).setCell ⟨g, 3, none⟩ v3).setCell ⟨g, 4, none⟩ v4).setCell ⟨g, 5, none⟩ v5).setCell ⟨g, 6, none⟩ v6).setCell ⟨g, 7, none⟩ v7).setCell ⟨g, 8, none⟩ v8) (l.set i (g, t, #[v0, v1, v2, v3, v4, v5, v6, v7, v8])) :=
 x.upd i hi (sg9 g [v0, v1, v2, v3, v4, v5, v6, v7, v8] W 0) (kp_put9 x.bl (Or.inl (x.ge i hi)) v0 v1 v2 v3 v4 v5 v6 v7 v8) ((x.b i hi).put9 v0 v1 v2 v3 v4 v5 v6 v7 v8)
theorem Blk.put10 {W : World} {g : Nat} {t : TypeId} {a0 a1 a2 a3 a4 a5 a6 a7 a8 a9 : Value} (hk : Blk W g t #[a0, a1, a2, a3, a4, a5, a6, a7, a8, a9]) (v0 v1 v2 v3 v4 v5 v6 v7 v8 v9 : Value) : Blk (((((((((((W).setCell ⟨g, 0, none⟩ v0).setCell ⟨g, 1, none⟩ v1).setCell ⟨g, 2, none⟩ v2).setCell ⟨g, 3, none⟩ v3).setCell ⟨g, 4, none⟩ v4).setCell ⟨g, 5, none⟩ v5).setCell ⟨g, 6, none⟩ v6).setCell ⟨g, 7, none⟩ v7).setCell ⟨g, 8, none⟩ v8).setCell ⟨g, 9, none⟩ v9) g t #[v0, v1, v2, v3, v4, v5, v6, v7, v8, v9] := by
 have h0 : Blk _ g t #[v0, a1, a2, a3, a4, a5, a6, a7, a8, a9] := hk.setJ 0 v0
 have h1 : Blk _ g t #[v0, v1, a2, a3, a4, a5, a6, a7, a8, a9] := h0.setJ 1 v1
 have h2 : Blk _ g t #[v0, v1, v2, a3, a4, a5, a6, a7, a8, a9] := h1.setJ 2 v2
 have h3 : Blk _ g t #[v0, v1, v2, v3, a4, a5, a6, a7, a8, a9] := h2.setJ 3 v3
 have h4 : Blk _ g t #[v0, v1, v2, v3, v4, a5, a6, a7, a8, a9] := h3.setJ 4 v4
 have h5 : Blk _ g t #[v0, v1, v2, v3, v4, v5, a6, a7, a8, a9] := h4.setJ 5 v5
 have h6 : Blk _ g t #[v0, v1, v2, v3, v4, v5, v6, a7, a8, a9] := h5.setJ 6 v6
 have h7 : Blk _ g t #[v0, v1, v2, v3, v4, v5, v6, v7, a8, a9] := h6.setJ 7 v7
 have h8 : Blk _ g t #[v0, v1, v2, v3, v4, v5, v6, v7, v8, a9] := h7.setJ 8 v8
 have h9 : Blk _ g t #[v0, v1, v2, v3, v4, v5, v6, v7, v8, v9] := h8.setJ 9 v9
 exact h9
theorem bp9 {w0 W : World} {g : Nat} (h : Below w0.heap.size w0 W) (hg : w0.heap.size ≤ g) (v0 v1 v2 v3 v4 v5 v6 v7 v8 v9 : Value) : Below w0.heap.size w0 (((((((((((W).setCell ⟨g, 0, none⟩ v0).setCell ⟨g, 1, none⟩ v1).setCell ⟨g, 2, none⟩ v2).setCell ⟨g, 3, none⟩ v3).setCell ⟨g, 4, none⟩ v4).setCell ⟨g, 5, none⟩ v5).setCell ⟨g, 6, none⟩ v6).setCell ⟨g, 7, none⟩ v7).setCell ⟨g, 8, none⟩ v8).setCell ⟨g, 9, none⟩ v9) := setL_below h hg [v0, v1, v2, v3, v4, v5, v6, v7, v8, v9] 0
theorem kp_put10 {X : Nat → Prop} {w0 W : World} {g : Nat} (h : Kp w0.heap.size X w0 W) (hg : w0.heap.size ≤ g ∨ X g) (v0 v1 v2 v3 v4 v5 v6 v7 v8 v9 : Value) : Kp w0.heap.size X w0 (((((((((((W).setCell ⟨g, 0, none⟩ v0).setCell ⟨g, 1, none⟩ v1).setCell ⟨g, 2, none⟩ v2).setCell ⟨g, 3, none⟩ v3).setCell ⟨g, 4, none⟩ v4).setCell ⟨g, 5, none⟩ v5).setCell ⟨g, 6, none⟩ v6).setCell ⟨g, 7, none⟩ v7).setCell ⟨g, 8, none⟩ v8).setCell ⟨g, 9, none⟩ v9) := setL_kp h hg [v0, v1, v2, v3, v4, v5, v6, v7, v8, v9] 0
theorem Fr.put10 {w0 W : World} {l : List (Nat × TypeId × Array Value)} (x : Fr w0 W l) (i : Nat) {g : Nat} {t : TypeId} {a0 a1 a2 a3 a4 a5 a6 a7 a8 a9 : Value} (hi : l[i]? = some (g, t, #[a0, a1, a2, a3, a4, a5, a6, a7, a8, a9])) (v0 v1 v2 v3 v4 v5 v6 v7 v8 v9 : Value) : Fr w0 (((((((((((W).setCell ⟨g, 0, none⟩ v0).setCell ⟨g, 1, none⟩ v1).setCell ⟨g, 2, none⟩ v2).setCell ⟨g, 3, none⟩ v3).setCell ⟨g, 4, none⟩ v4).setCell ⟨g, 5, none⟩ v5).setCell ⟨g, 6, none⟩ v6).setCell ⟨g, 7, none⟩ v7).setCell ⟨g, 8, none⟩ v8).setCell ⟨g, 9, none⟩ v9) (l.set i (g, t, #[v0, v1, v2, v3, v4, v5, v6, v7, v8, v9])) :=
 x.upd i hi (sg9 g [v0, v1, v2, v3, v4, v5, v6, v7, v8, v9] W 0) (bp9 x.bl (x.ge i hi) v0 v1 v2 v3 v4 v5 v6 v7 v8 v9) ((x.b i hi).put10 v0 v1 v2 v3 v4 v5 v6 v7 v8 v9)
theorem FrK.put10 {X : Nat → Prop} {w0 W : World} {l : List (Nat × TypeId × Array Value)} (x : FrK X w0 W l) (i : Nat) {g : Nat} {t : TypeId} {a0 a1 a2 a3 a4 a5 a6 a7 a8 a9 : Value} (hi : l[i]? = some (g, t, #[a0, a1, a2, a3, a4, a5, a6, a7, a8, a9])) (v0 v1 v2 v3 v4 v5 v6 v7 v8 v9 : Value) : FrK X w0 (((((((((((W).setCell ⟨g, 0, none⟩ v0).setCell ⟨g, 1, none⟩ v1).setCell ⟨g, 2, none⟩ v2).setCell ⟨g, 3, none⟩ v3).setCell ⟨g, 4, none⟩ v4).setCell ⟨g, 5, none⟩ v5).setCell ⟨g, 6, none⟩ v6).setCell ⟨g, 7, none⟩ v7).setCell ⟨g, 8, none⟩ v8).setCell ⟨g, 9, none⟩ v9) (l.set i (g, t, #[v0, v1, v2, v3, v4, v5, v6, v7, v8, v9])) :=
 x.upd i hi (sg9 g [v0, v1, v2, v3, v4, v5, v6, v7, v8, v9] W 0) (kp_put10 x.bl (Or.inl (x.ge i hi)) v0 v1 v2 v3 v4 v5 v6 v7 v8 v9) ((x.b i hi).put10 v0 v1 v2 v3 v4 v5 v6 v7 v8 v9)
--put>>
section
variable {P : Program}
theorem run_app_full (w : World) (t ty e : TypeId) (z : Value) (size bytes : Nat) (ht : P.underlying t = some (.slice e)) (hi : (P.info? e).map (fun i => (i.zero, i.size, i.bytes)) = some (some z, size, bytes))
    (hzs : z.cells.size = size) (hsz : 0 < size) (A : Option Addr) (n : Nat) (xs : List Value) (hs : SrcAt w A n size xs) (cs : Array Value) (hl : cs.size = size) (h1 : ∀ u ∈ cs.toList, u.oneCell' = true)
    (hn : (n + 1) * bytes ≤ 140737488355328) (hn2 : n + 1 ≤ 9223372036854775807) :
    ∃ g' c' w', (Builtin.append_ #[t, t] ty #[.slice A n n, .slice (some ⟨w.heap.size, 0, none⟩) 1 1]).run P (w.alloc (.cells cs e)) = .ok (.slice (some ⟨g', 0, none⟩) (n + 1) c') w' ∧ w'.ownsRow w.heap.size e size (.slice (some ⟨g', 0, none⟩) (n + 1) c') (n + 1) (xs ++ cs.toList) ∧ Below w.heap.size w w' := by
  obtain ⟨i, hi', hz, hsi, hb⟩ := info_parts hi
  subst hsi
  subst hb
  have hc1 : cs.toList.length = 1 * i.size := by simpa using hl
  have hlen : (xs ++ cs.toList).length = (n + 1) * i.size := by rw [List.length_append, hs.1, hc1, Nat.add_mul]
  have hnew : ∀ j u, cs.toList[j]? = some u → (w.alloc (.cells cs e)).cell? ((⟨w.heap.size, 0, none⟩ : Addr).add j) = some u := fun j u hu => by
    rw [add_plain, cell_of_row _ _ _ cs e (0, 0) (heap_alloc_new w _)]
    simpa using hu
  have fin : ∀ (old : Nat), old < n + 1 → (((w.alloc (.cells cs e)).drew.alloc (.cells (xs.toArray ++ cs.toList.toArray ++ Builtin.zeroCells z.cells (grownCap (w.alloc (.cells cs e)) (n + 1) old e - (n + 1))) e)).ownsRow w.heap.size e i.size
        (.slice (some ⟨(w.alloc (.cells cs e)).heap.size, 0, none⟩) (n + 1) (grownCap (w.alloc (.cells cs e)) (n + 1) old e)) (n + 1) (xs ++ cs.toList)) ∧ Below w.heap.size w ((w.alloc (.cells cs e)).drew.alloc (.cells (xs.toArray ++ cs.toList.toArray ++ Builtin.zeroCells z.cells (grownCap (w.alloc (.cells cs e)) (n + 1) old e - (n + 1))) e)) := fun old ho => by
    have hge := grownCap_ge (w.alloc (.cells cs e)) (n + 1) old e
    have hcm := grownCap_le_maxLen (w.alloc (.cells cs e)) (n + 1) old e (by unfold maxLen; omega)
    refine ⟨⟨hlen, .inr ⟨(w.alloc (.cells cs e)).heap.size, _, _, rfl, by simp, heap_alloc_new (w.alloc (.cells cs e)).drew _, hge, hcm, ?_, ?_⟩⟩, bA (bD (below1 w _) 1) _⟩
    · simp only [Array.size_append, List.size_toArray, size_zeroCells, hzs, hs.1, hc1, ← Nat.add_mul]
      congr 1
      omega
    · simp only [Array.toList_append, List.append_assoc]
      rw [← List.append_assoc, ← hlen]
      exact List.take_left
  rcases A with _ | ad
  · have hn0 : n = 0 := by
      rcases Nat.eq_zero_or_pos n with h0 | h0
      · exact h0
      · obtain ⟨b, off, h, _⟩ := hs.2 h0
        cases h
    subst hn0
    have hx : xs = [] := List.eq_nil_of_length_eq_zero (by simpa using hs.1)
    subst hx
    have hr := run_append_nil (P := P) (w.alloc (.cells cs e)) t ty e i z ht hi' hz ⟨w.heap.size, 0, none⟩ 1 1 cs.toList hc1 hnew (by omega) (by omega) (by omega)
    have hf := fin 0 (by omega)
    simp only [List.nil_append, Array.empty_append, Nat.zero_add] at hf ⊢
    exact ⟨_, _, _, hr, hf.1, hf.2⟩
  · have hr := run_append_grow (P := P) (w.alloc (.cells cs e)) t ty e i z ht hi' hz ad n n xs hs.1 (fun j u hu => by
      have hm : 0 < n := by
        rcases Nat.eq_zero_or_pos n with h0 | h0
        · subst h0
          have hx : xs = [] := List.eq_nil_of_length_eq_zero (by simpa using hs.1)
          subst hx
          simp at hu
        · exact h0
      obtain ⟨b, off, hA, hlt, hc⟩ := hs.2 hm
      injection hA with hA
      subst hA
      rw [add_plain]
      exact ((below1 w _).cell (p := ⟨b, off + j, none⟩) hlt).trans (hc j u hu)) ⟨w.heap.size, 0, none⟩ 1 1 cs.toList hc1 hnew (by omega) (by omega) (growslice_fits (by omega) hn)
    have hf := fin n (by omega)
    exact ⟨_, _, _, hr, hf.1, hf.2⟩
end
end Go.Proofs.YtiaabmhjkoohmaaGreat
