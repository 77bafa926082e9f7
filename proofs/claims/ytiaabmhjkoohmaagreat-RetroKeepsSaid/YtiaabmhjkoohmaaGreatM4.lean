/-
  Contracts of functions that the claim reaches, and the plain laws behind them. Conditions as named in each.
-/
import Derived.Test.YtiaabmhjkoohmaaGreatSlM
namespace Go.Proofs.YtiaabmhjkoohmaaGreat
set_option maxRecDepth 100000
set_option maxHeartbeats 25600000
set_option linter.unusedVariables false
set_option linter.unusedSimpArgs false
open Go.RowKit Tryz
open Lib (hid)
structure To where
 b : Bs
 tx : Int
 sh : Int
 rows : List Sh
 net : Int
 tk : Int
 py : Int
def toC (t : To) (A : Option Addr) (n c : Nat) : Array Value := #[.int .i64 t.b.c, .int .i64 t.b.t, .int .i64 t.b.s, .int .i64 t.tx, .int .i64 t.sh, .slice A n c, .int .i64 t.net, .int .i64 t.tk, .int .i64 t.py]
structure Yr where
 n : Nat
 sl : List Sp
 t : To
structure SpP where
 z : Sp
 A : Option Addr
 c : Nat
 B : Option Addr
 d : Nat
def spp0 : SpP := ⟨sp0, none, 0, none, 0⟩
def spPC (q : SpP) : List Value := [.int .i64 q.z.p, .int .i64 q.z.b.c, .int .i64 q.z.b.t, .int .i64 q.z.b.s, .int .i64 q.z.tx, .int .i64 q.z.sh, .slice q.A q.z.rows.length q.c, .int .i64 q.z.net, .slice q.B q.z.tk.length q.d, .int .i64 q.z.py]
theorem spPC_len (q : SpP) : (spPC q).length = 10 := rfl
structure SpOwn (w : World) (base : Nat) (q : SpP) : Prop where
 rows : w.ownsRow base 79 2 (.slice q.A q.z.rows.length q.c) q.z.rows.length (q.z.rows.flatMap shC)
 tk : w.ownsRow base 116 6 (.slice q.B q.z.tk.length q.d) q.z.tk.length (q.z.tk.flatMap tkC)
structure Soz (w : World) (base : Nat) (A : Option Addr) (n c : Nat) (l : List Sp) : Prop where
 ex : ∃ L : List SpP, L.map SpP.z = l ∧ n = L.length ∧ w.ownsRow base 45 10 (.slice A n c) n (L.flatMap spPC) ∧ ∀ q ∈ L, SpOwn w base q
def yrC (Y : Yr) (A : Option Addr) (c : Nat) (B : Option Addr) (d : Nat) : Array Value :=
 #[.int .i64 Y.n, .slice A Y.sl.length c, .int .i64 Y.t.b.c, .int .i64 Y.t.b.t, .int .i64 Y.t.b.s, .int .i64 Y.t.tx, .int .i64 Y.t.sh, .slice B Y.t.rows.length d, .int .i64 Y.t.net, .int .i64 Y.t.tk, .int .i64 Y.t.py]
structure Ya9 (w : World) (base p : Nat) (Y : Yr) (A : Option Addr) (c : Nat) (B : Option Addr) (d : Nat) : Prop where
 blk : Blk w p 111 (yrC Y A c B d)
 sl : Soz w base A Y.sl.length c Y.sl
 rows : w.ownsRow base 79 2 (.slice B Y.t.rows.length d) Y.t.rows.length (Y.t.rows.flatMap shC)
def rows0 (n : Nat) : List Sh := List.replicate n sh0
def to0 (n : Nat) : To := ⟨bs0, 0, 0, rows0 n, 0, 0, 0⟩
def yr0 (n : Nat) : Yr := ⟨n, [], to0 n⟩
theorem sum_none (nc : Nat) (f : Nat → List Sh) : sumL f nc 0 0 = rows0 nc := by
 unfold sumL rows0
 apply List.ext_getElem?
 intro i
 by_cases hi : i < nc
 ·
  simp [hi, sumI, sumTo, sh0]
 ·
  simp [hi]
theorem SpOwn.below {w w' : World} {base : Nat} {q : SpP} (h : SpOwn w base q) (hb : Below w.heap.size w w') : SpOwn w' base q := ⟨oB9 h.rows hb, oB9 h.tk hb⟩
theorem Soz.below {w w' : World} {base : Nat} {A : Option Addr} {n c : Nat} {l : List Sp} (h : Soz w base A n c l) (hb : Below w.heap.size w w') : Soz w' base A n c l := by
 obtain ⟨L, h1, h2, h3, h4⟩ := h.ex
 exact ⟨L, h1, h2, oB9 h3 hb, fun q hq => (h4 q hq).below hb⟩
theorem Ya9.below {w w' : World} {base p : Nat} {Y : Yr} {A : Option Addr} {c : Nat} {B : Option Addr} {d : Nat} (h : Ya9 w base p Y A c B d) (hb : Below w.heap.size w w') : Ya9 w' base p Y A c B d := ⟨h.blk.t hb, h.sl.below hb, oB9 h.rows hb⟩
theorem SpOwn.more {w : World} {base base' : Nat} {q : SpP} (h : SpOwn w base q) (hb : base' ≤ base) : SpOwn w base' q := ⟨oM9 h.rows hb, oM9 h.tk hb⟩
theorem Soz.more {w : World} {base base' : Nat} {A : Option Addr} {n c : Nat} {l : List Sp} (h : Soz w base A n c l) (hb : base' ≤ base) : Soz w base' A n c l := by
 obtain ⟨L, h1, h2, h3, h4⟩ := h.ex
 exact ⟨L, h1, h2, oM9 h3 hb, fun q hq => (h4 q hq).more hb⟩
theorem Ya9.more {w : World} {base base' p : Nat} {Y : Yr} {A : Option Addr} {c : Nat} {B : Option Addr} {d : Nat} (h : Ya9 w base p Y A c B d) (hb : base' ≤ base) : Ya9 w base' p Y A c B d := ⟨h.blk, h.sl.more hb, oM9 h.rows hb⟩
theorem ynew_c (n : Nat) (w : World) (hn : n ≤ 64) : Calls prog 66 #[.int .i64 n] w fun e w' => (∃ p B d, e = .returned (.tuple #[.pointer (some ⟨p, 0, none⟩), .int .i64 0]) ∧ w.heap.size ≤ p ∧ Ya9 w' w.heap.size p (yr0 n) none 0 B d) ∧ Below w.heap.size w w' := by
 have K := hid (sum_c (fun _ => []) none 0 0 n w ⟨by omega, fun h => absurd h (by omega)⟩ hn)
 go_enter func66, ntmps66
 go_wp2_with fail
 refine K.out.mono ?_
 rintro e w1 ⟨⟨_, v, rfl, ho⟩ | ⟨⟨k, i, h, _⟩, _⟩, hb⟩
 case inr => exact absurd h (by omega)
 rw [sum_none] at ho
 obtain ⟨A, c, rfl⟩ := oL9 ho.2
 have HO := hid ho.2
 have HB := hid hb
 clear ho hb K
 go_wp2_with fail
 refine bodyPost_ret (v := .tuple #[.pointer (some ⟨w1.heap.size, 0, none⟩), .int .i64 0]) (by simp [results, results66, go_sem]) rfl ⟨⟨w1.heap.size, A, c, rfl, HB.out.size, ?_, ?_, ?_⟩, bA HB.out _⟩
 ·
  have h := Blk.mk w1 111 (yrC (yr0 n) none 0 A c)
  simp only [yrC, yr0, to0, rows0, bs0, List.length_replicate, List.length_nil] at h ⊢
  exact h
 ·
  exact ⟨[], rfl, rfl, World.ownsRow_nil _ _ _ _, fun q hq => by cases hq⟩
 ·
  have h := HO.out.alloc (.cells (yrC (yr0 n) none 0 A c) 111)
  simp only [yrC, yr0, to0, rows0, bs0, List.length_replicate, List.length_nil] at h ⊢
  exact h
def ToR (t : To) (w : World) (e : Ending) (w' : World) : Prop := (∃ A c, e = .returned (.agg (toC t A t.rows.length c)) ∧ w'.ownsRow w.heap.size 79 2 (.slice A t.rows.length c) t.rows.length (t.rows.flatMap shC)) ∧ Below w.heap.size w w'
theorem ytotals_c (p base : Nat) (Y : Yr) (A : Option Addr) (c : Nat) (B : Option Addr) (d : Nat) (w : World) (h : Ya9 w base p Y A c B d) (hok : Y.t.rows.length ≤ 1000) : Calls prog 26 #[.pointer (some ⟨p, 0, none⟩)] w (ToR Y.t w) := by
 have HF0 := hid (Fr.start w)
 obtain ⟨n, hn⟩ : ∃ n, n = Y.t.rows.length := ⟨_, rfl⟩
 have HN := hid hn
 have KC := hid (fun W (hW : Below w.heap.size w W) => (clone_sr B n d Y.t.rows W ((ow9 sl9 (by rw [hn]; exact h.rows) hn (by omega) (by decide)).below hW) (by omega)).mono fun _ _ h => h.b hW)
 have hk := h.blk
 unfold yrC at hk
 clear h
 rw [← hn] at hk hok
 clear hn
 obtain ⟨yn, ys, ⟨⟨bc, bt, bs⟩, tx, sh, rows, net, tk, py⟩⟩ := Y
 dsimp only at hk KC HN ⊢
 have qz := hk.alloc (.cells #[.int .i64 0, .int .i64 0, .int .i64 0, .int .i64 0, .int .i64 0, .slice none 0 0, .int .i64 0, .int .i64 0, .int .i64 0] 82)
 have d0 := qz.cv 2 (.int .i64 bc) rfl
 have d1 := qz.cv 3 (.int .i64 bt) rfl
 have d2 := qz.cv 4 (.int .i64 bs) rfl
 have d3 := qz.cv 5 (.int .i64 tx) rfl
 have d4 := qz.cv 6 (.int .i64 sh) rfl
 have d5 := qz.cv 7 (.slice B n d) rfl
 have d6 := qz.cv 8 (.int .i64 net) rfl
 have d7 := qz.cv 9 (.int .i64 tk) rfl
 have d8 := qz.cv 10 (.int .i64 py) rfl
 clear qz
 have HK := hid hk
 clear hk
 have HF1 := al9 (((HF0.out.al 82 #[.int .i64 0, .int .i64 0, .int .i64 0, .int .i64 0, .int .i64 0, .slice none 0 0, .int .i64 0, .int .i64 0, .int .i64 0]).al 82 #[.int .i64 bc, .int .i64 bt, .int .i64 bs, .int .i64 tx, .int .i64 sh, .slice B n d, .int .i64 net, .int .i64 tk, .int .i64 py]))
 clear HF0
 go_enter func26, ntmps26
 have c1_5 := (HF1.out.b 1 rfl).cv 5 (.slice B n d) rfl
 go_wp2_with fail
 refine (KC.out _ HF1.out.bl).mono ?_
 rintro e W1 ⟨⟨A1, c1, rfl, ho⟩, hb⟩
 clear c1_5
 have HF2 := hid (HF1.out.ca hb)
 clear hb HF1
 clear d0 d1 d2 d3 d4 d5 d6 d7 d8
 have HO := hid ho
 clear ho
 obtain ⟨c1_0, c1_1, c1_2, c1_3, c1_4, c1_5, c1_6, c1_7, c1_8⟩ := (HF2.out.b 1 rfl).q9
 obtain ⟨f1_0, f1_1, f1_2, f1_3, f1_4, f1_5, f1_6, f1_7, f1_8⟩ := (HF2.out.b 1 rfl).r9
 replace HO := hid (oS9 HO.out (HF2.out.b 1 rfl) (by decide) 5 (.slice A1 n c1))
 have HF3 := hid (HF2.out.st 1 rfl 5 (.slice A1 n c1))
 clear HF2
 obtain ⟨c1_0_3, c1_1_3, c1_2_3, c1_3_3, c1_4_3, c1_5_3, c1_6_3, c1_7_3, c1_8_3⟩ := (HF3.out.b 1 rfl).q9
 obtain ⟨c0_0, c0_1, c0_2, c0_3, c0_4, c0_5, c0_6, c0_7, c0_8⟩ := (HF3.out.b 0 rfl).q9
 obtain ⟨f0_0, f0_1, f0_2, f0_3, f0_4, f0_5, f0_6, f0_7, f0_8⟩ := (HF3.out.b 0 rfl).r9
 go_wp2_with fail
 have hg := HF3.out.ge 0 rfl
 refine bodyPost_ret (v := .agg #[.int .i64 bc, .int .i64 bt, .int .i64 bs, .int .i64 tx, .int .i64 sh, .slice A1 n c1, .int .i64 net, .int .i64 tk, .int .i64 py]) (by simp [results, results26, go_sem, c0_0, c0_1, c0_2, c0_3, c0_4, c0_5, c0_6, c0_7, c0_8]) rfl ⟨⟨A1, c1, ?_, ?_⟩, ?_⟩
 ·
  unfold toC
  dsimp only
  rw [← HN.out]
 ·
  show World.ownsRow _ _ _ _ (.slice A1 rows.length c1) rows.length _
  rw [← HN.out]
  exact (oS9 (oS9 (oS9 (oS9 (oS9 (oS9 (oS9 (oS9 (oS9 HO.out (HF3.out.b 0 rfl) (by decide) 0 (.int .i64 bc)) ((HF3.out.b 0 rfl).setJ 0 (.int .i64 bc)) (by decide) 1 (.int .i64 bt)) (((HF3.out.b 0 rfl).setJ 0 (.int .i64 bc)).setJ 1 (.int .i64 bt)) (by decide) 2 (.int .i64 bs)) ((((HF3.out.b 0 rfl).setJ 0 (.int .i64 bc)).setJ 1 (.int .i64 bt)).setJ 2 (.int .i64 bs)) (by decide) 3 (.int .i64 tx)) (((((HF3.out.b 0 rfl).setJ 0 (.int .i64 bc)).setJ 1 (.int .i64 bt)).setJ 2 (.int .i64 bs)).setJ 3 (.int .i64 tx)) (by decide) 4 (.int .i64 sh)) ((((((HF3.out.b 0 rfl).setJ 0 (.int .i64 bc)).setJ 1 (.int .i64 bt)).setJ 2 (.int .i64 bs)).setJ 3 (.int .i64 tx)).setJ 4 (.int .i64 sh)) (by decide) 5 (.slice A1 n c1)) (((((((HF3.out.b 0 rfl).setJ 0 (.int .i64 bc)).setJ 1 (.int .i64 bt)).setJ 2 (.int .i64 bs)).setJ 3 (.int .i64 tx)).setJ 4 (.int .i64 sh)).setJ 5 (.slice A1 n c1)) (by decide) 6 (.int .i64 net)) ((((((((HF3.out.b 0 rfl).setJ 0 (.int .i64 bc)).setJ 1 (.int .i64 bt)).setJ 2 (.int .i64 bs)).setJ 3 (.int .i64 tx)).setJ 4 (.int .i64 sh)).setJ 5 (.slice A1 n c1)).setJ 6 (.int .i64 net)) (by decide) 7 (.int .i64 tk)) (((((((((HF3.out.b 0 rfl).setJ 0 (.int .i64 bc)).setJ 1 (.int .i64 bt)).setJ 2 (.int .i64 bs)).setJ 3 (.int .i64 tx)).setJ 4 (.int .i64 sh)).setJ 5 (.slice A1 n c1)).setJ 6 (.int .i64 net)).setJ 7 (.int .i64 tk)) (by decide) 8 (.int .i64 py))
 ·
  exact (bSg (bSg (bSg (bSg (bSg (bSg (bSg (bSg (bSg HF3.out.bl hg 0 (.int .i64 bc)) hg 1 (.int .i64 bt)) hg 2 (.int .i64 bs)) hg 3 (.int .i64 tx)) hg 4 (.int .i64 sh)) hg 5 (.slice A1 n c1)) hg 6 (.int .i64 net)) hg 7 (.int .i64 tk)) hg 8 (.int .i64 py))
end Go.Proofs.YtiaabmhjkoohmaaGreat
