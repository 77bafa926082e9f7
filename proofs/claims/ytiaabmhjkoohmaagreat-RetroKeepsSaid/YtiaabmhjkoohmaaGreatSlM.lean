/-
 Contract of slip.Make. Conditions as named.
-/
import Derived.Test.YtiaabmhjkoohmaaGreatM3
import Derived.Deep.DeepCutAuto
import Derived.Deep.RegionHeld3
namespace Go.Proofs.YtiaabmhjkoohmaaGreat
set_option maxRecDepth 100000
set_option maxHeartbeats 25600000
set_option linter.unusedVariables false
set_option linter.unusedSimpArgs false
open Go.RowKit Tryz
open Lib (hid)
theorem Blk.a10f {w : World} {g : Nat} {t : TypeId} {a b c d e f h i j k : Value} (x : Blk w g t #[a, b, c, d, e, f, h, i, j, k]) : (w.cell? ⟨g, 0, none⟩ = some a ∧ w.cell? ⟨g, 1, none⟩ = some b ∧ w.cell? ⟨g, 2, none⟩ = some c ∧ w.cell? ⟨g, 3, none⟩ = some d ∧ w.cell? ⟨g, 4, none⟩ = some e ∧ w.cell? ⟨g, 5, none⟩ = some f ∧ w.cell? ⟨g, 6, none⟩ = some h ∧ w.cell? ⟨g, 7, none⟩ = some i ∧ w.cell? ⟨g, 8, none⟩ = some j ∧ w.cell? ⟨g, 9, none⟩ = some k) ∧
  w.frozen? ⟨g, 0, none⟩ = false ∧ w.frozen? ⟨g, 1, none⟩ = false ∧ w.frozen? ⟨g, 2, none⟩ = false ∧ w.frozen? ⟨g, 3, none⟩ = false ∧ w.frozen? ⟨g, 4, none⟩ = false ∧ w.frozen? ⟨g, 5, none⟩ = false ∧ w.frozen? ⟨g, 6, none⟩ = false ∧ w.frozen? ⟨g, 7, none⟩ = false ∧ w.frozen? ⟨g, 8, none⟩ = false ∧ w.frozen? ⟨g, 9, none⟩ = false :=
 ⟨⟨x.cell 0, x.cell 1, x.cell 2, x.cell 3, x.cell 4, x.cell 5, x.cell 6, x.cell 7, x.cell 8, x.cell 9⟩, x.free 0, x.free 1, x.free 2, x.free 3, x.free 4, x.free 5, x.free 6, x.free 7, x.free 8, x.free 9⟩
theorem alcd {n : Nat} {w w1 : World} {t : TypeId} {cs : Array Value} (h : Below ((w.alloc (.cells cs t)).drew).heap.size ((w.alloc (.cells cs t)).drew) w1) (hn : n ≤ w.heap.size) : Blk w1 w.heap.size t cs ∧ n ≤ w.heap.size := ⟨Blk.below (w := (w.alloc (.cells cs t)).drew) (Blk.mk w t cs) h (by simp), hn⟩
theorem alca {n : Nat} {w w1 : World} {t : TypeId} {cs : Array Value} (h : Below (w.alloc (.cells cs t)).heap.size (w.alloc (.cells cs t)) w1) (hn : n ≤ w.heap.size) : Blk w1 w.heap.size t cs ∧ n ≤ w.heap.size := ⟨Blk.below (w := w.alloc (.cells cs t)) (Blk.mk w t cs) h (by simp), hn⟩
theorem alct {n g : Nat} {w w1 : World} {t : TypeId} {cs : Array Value} (h : Blk w g t cs ∧ n ≤ g) (hb : Below w.heap.size w w1) : Blk w1 g t cs ∧ n ≤ g := ⟨h.1.t hb, h.2⟩
theorem st10 {w0 W : World} {g : Nat} (h : Below w0.heap.size w0 W) (hg : w0.heap.size ≤ g) (v0 v1 v2 v3 v4 v5 v6 v7 v8 v9 : Value) : Below w0.heap.size w0 ((((((((((W.setCell ⟨g, 0, none⟩ v0).setCell ⟨g, 1, none⟩ v1).setCell ⟨g, 2, none⟩ v2).setCell ⟨g, 3, none⟩ v3).setCell ⟨g, 4, none⟩ v4).setCell ⟨g, 5, none⟩ v5).setCell ⟨g, 6, none⟩ v6).setCell ⟨g, 7, none⟩ v7).setCell ⟨g, 8, none⟩ v8).setCell ⟨g, 9, none⟩ v9) := (bSg (bSg (bSg (bSg (bSg (bSg (bSg (bSg (bSg (bSg h hg 0 v0) hg 1 v1) hg 2 v2) hg 3 v3) hg 4 v4) hg 5 v5) hg 6 v6) hg 7 v7) hg 8 v8) hg 9 v9)
theorem own_st10 {W : World} {base size n : Nat} {e : TypeId} {v : Value} {xs : List Value} (h : W.ownsRow base e size v n xs) {g : Nat} {t : TypeId} {cs : Array Value} (hk : Blk W g t cs) (hne : e ≠ t) (v0 v1 v2 v3 v4 v5 v6 v7 v8 v9 : Value) : ((((((((((W.setCell ⟨g, 0, none⟩ v0).setCell ⟨g, 1, none⟩ v1).setCell ⟨g, 2, none⟩ v2).setCell ⟨g, 3, none⟩ v3).setCell ⟨g, 4, none⟩ v4).setCell ⟨g, 5, none⟩ v5).setCell ⟨g, 6, none⟩ v6).setCell ⟨g, 7, none⟩ v7).setCell ⟨g, 8, none⟩ v8).setCell ⟨g, 9, none⟩ v9).ownsRow base e size v n xs :=
 (oS9 (oS9 (oS9 (oS9 (oS9 (oS9 (oS9 (oS9 (oS9 (oS9 h hk hne 0 v0) (hk.setJ 0 v0) hne 1 v1) ((hk.setJ 0 v0).setJ 1 v1) hne 2 v2) (((hk.setJ 0 v0).setJ 1 v1).setJ 2 v2) hne 3 v3) ((((hk.setJ 0 v0).setJ 1 v1).setJ 2 v2).setJ 3 v3) hne 4 v4) (((((hk.setJ 0 v0).setJ 1 v1).setJ 2 v2).setJ 3 v3).setJ 4 v4) hne 5 v5) ((((((hk.setJ 0 v0).setJ 1 v1).setJ 2 v2).setJ 3 v3).setJ 4 v4).setJ 5 v5) hne 6 v6) (((((((hk.setJ 0 v0).setJ 1 v1).setJ 2 v2).setJ 3 v3).setJ 4 v4).setJ 5 v5).setJ 6 v6) hne 7 v7) ((((((((hk.setJ 0 v0).setJ 1 v1).setJ 2 v2).setJ 3 v3).setJ 4 v4).setJ 5 v5).setJ 6 v6).setJ 7 v7) hne 8 v8) (((((((((hk.setJ 0 v0).setJ 1 v1).setJ 2 v2).setJ 3 v3).setJ 4 v4).setJ 5 v5).setJ 6 v6).setJ 7 v7).setJ 8 v8) hne 9 v9)
theorem ow9 {α : Type} {f : α → List Value} {K : Nat} {d : α} {w : World} {base : Nat} {e : TypeId} {A : Option Addr} {n c : Nat} {l : List α} (hf : ∀ x, (f x).length = K) (h : w.ownsRow base e K (.slice A n c) n (l.flatMap f)) (hn : n = l.length) (hn2 : n ≤ 9223372036854775807) (hK : 0 < K) : Rlz f K d w A n l := by
 obtain ⟨A', c', he, _, hr⟩ := own_sl f K d hf h hn hK
 injection he with h1 _ h3
 subst h1; subst h3
 exact hr
theorem Blk.set10 {W : World} {g : Nat} {t : TypeId} {a b c d e f h i j k : Value} (hk : Blk W g t #[a, b, c, d, e, f, h, i, j, k]) (v0 v1 v2 v3 v4 v5 v6 v7 v8 v9 : Value) : Blk ((((((((((W.setCell ⟨g, 0, none⟩ v0).setCell ⟨g, 1, none⟩ v1).setCell ⟨g, 2, none⟩ v2).setCell ⟨g, 3, none⟩ v3).setCell ⟨g, 4, none⟩ v4).setCell ⟨g, 5, none⟩ v5).setCell ⟨g, 6, none⟩ v6).setCell ⟨g, 7, none⟩ v7).setCell ⟨g, 8, none⟩ v8).setCell ⟨g, 9, none⟩ v9) g t #[v0, v1, v2, v3, v4, v5, v6, v7, v8, v9] := by
 have h0 : Blk _ g t #[v0, b, c, d, e, f, h, i, j, k] := hk.setJ 0 v0
 have h1 : Blk _ g t #[v0, v1, c, d, e, f, h, i, j, k] := h0.setJ 1 v1
 have h2 : Blk _ g t #[v0, v1, v2, d, e, f, h, i, j, k] := h1.setJ 2 v2
 have h3 : Blk _ g t #[v0, v1, v2, v3, e, f, h, i, j, k] := h2.setJ 3 v3
 have h4 : Blk _ g t #[v0, v1, v2, v3, v4, f, h, i, j, k] := h3.setJ 4 v4
 have h5 : Blk _ g t #[v0, v1, v2, v3, v4, v5, h, i, j, k] := h4.setJ 5 v5
 have h6 : Blk _ g t #[v0, v1, v2, v3, v4, v5, v6, i, j, k] := h5.setJ 6 v6
 have h7 : Blk _ g t #[v0, v1, v2, v3, v4, v5, v6, v7, j, k] := h6.setJ 7 v7
 have h8 : Blk _ g t #[v0, v1, v2, v3, v4, v5, v6, v7, v8, k] := h7.setJ 8 v8
 have h9 : Blk _ g t #[v0, v1, v2, v3, v4, v5, v6, v7, v8, v9] := h8.setJ 9 v9
 exact h9
theorem Fr.st10 {w0 W : World} {l : List (Nat × TypeId × Array Value)} (x : Fr w0 W l) (n : Nat) {g : Nat} {t : TypeId} {a b c d e f h i j k : Value} (hn : l[n]? = some (g, t, #[a, b, c, d, e, f, h, i, j, k])) (v0 v1 v2 v3 v4 v5 v6 v7 v8 v9 : Value) : Fr w0 ((((((((((W.setCell ⟨g, 0, none⟩ v0).setCell ⟨g, 1, none⟩ v1).setCell ⟨g, 2, none⟩ v2).setCell ⟨g, 3, none⟩ v3).setCell ⟨g, 4, none⟩ v4).setCell ⟨g, 5, none⟩ v5).setCell ⟨g, 6, none⟩ v6).setCell ⟨g, 7, none⟩ v7).setCell ⟨g, 8, none⟩ v8).setCell ⟨g, 9, none⟩ v9) (l.set n (g, t, #[v0, v1, v2, v3, v4, v5, v6, v7, v8, v9])) :=
 x.upd n hn ((((((((((gJ9 _ g 0 v0).trans (gJ9 _ g 1 v1)).trans (gJ9 _ g 2 v2)).trans (gJ9 _ g 3 v3)).trans (gJ9 _ g 4 v4)).trans (gJ9 _ g 5 v5)).trans (gJ9 _ g 6 v6)).trans (gJ9 _ g 7 v7)).trans (gJ9 _ g 8 v8)).trans (gJ9 _ g 9 v9)) (_root_.Go.Proofs.YtiaabmhjkoohmaaGreat.st10 x.bl (x.ge n hn) v0 v1 v2 v3 v4 v5 v6 v7 v8 v9) ((x.b n hn).set10 v0 v1 v2 v3 v4 v5 v6 v7 v8 v9)
def spC (z : Sp) (A : Option Addr) (n c : Nat) (B : Option Addr) (m d : Nat) : Array Value := #[.int .i64 z.p, .int .i64 z.b.c, .int .i64 z.b.t, .int .i64 z.b.s, .int .i64 z.tx, .int .i64 z.sh, .slice A n c, .int .i64 z.net, .slice B m d, .int .i64 z.py]
def spZ : Array Value := #[.int .i64 0, .int .i64 0, .int .i64 0, .int .i64 0, .int .i64 0, .int .i64 0, .slice none 0 0, .int .i64 0, .slice none 0 0, .int .i64 0]
def SlipR (E : Int) (z : Sp) (w : World) (e : Ending) (w' : World) : Prop :=
  ((E = 0 ∧ ∃ A c B d, e = .returned (.tuple #[.agg (spC z A z.rows.length c B z.tk.length d), .int .i64 0]) ∧ w'.ownsRow w.heap.size 79 2 (.slice A z.rows.length c) z.rows.length (z.rows.flatMap shC) ∧ w'.ownsRow w.heap.size 116 6 (.slice B z.tk.length d) z.tk.length (z.tk.flatMap tkC)) ∨
   (E ≠ 0 ∧ e = .returned (.tuple #[.agg spZ, .int .i64 E]))) ∧ Below w.heap.size w w'
def makeZ (k : Int) (b : Bs) (tx sh : Int) (rows : List Sh) (tk : List Tk) : Sp := ⟨k, b, tx, sh, rows, netV b.c tx rows, tk, netV b.c tx rows - sumT tk tk.length⟩
def mEz (k : Int) (b : Bs) (tx sh : Int) (rows : List Sh) (tk : List Tk) : Int :=
 sqz (netE b.c tx rows) (sqz (tsumE tk tk.length) (sqz (okE (okO So9 (netV b.c tx rows) (sumT tk tk.length)) 10) (chkY (makeZ k b tx sh rows tk) rows.length)))
theorem smake_c (k : Int) (b : Bs) (tx sh : Int) (rows : List Sh) (tk : List Tk) (A B : Option Addr) (n c m d : Nat) (w : World) (hr : Sh9 w A n rows) (ht : TkSl w B m tk) (hn : n ≤ 1000) (hm : m ≤ 1000) (re : Int) (z : Sp) (he : Hid (re = mEz k b tx sh rows tk)) (hz : Hid (z = makeZ k b tx sh rows tk)) :
    Calls prog 88 #[.int .i64 k, .agg #[.int .i64 b.c, .int .i64 b.t, .int .i64 b.s], .int .i64 tx, .int .i64 sh, .slice A n c, .slice B m d] w (SlipR re z w) := by
  have HF0 := hid (Fr.start w)
  have HN : Hid (n = rows.length) := hr.1
  have HM : Hid (m = tk.length) := ht.1
  obtain ⟨E1, V1, hE1, hV1, hV10⟩ := ev_ex (netE b.c tx rows) (netV b.c tx rows)
  obtain ⟨E2, V2, hE2, hV2, hV20⟩ := ev_ex (tsumE tk m) (sumT tk m)
  have K1 := hid (fun W (h : Sh9 W A n rows) => snet_c b.c tx rows A n c W h E1 V1 hE1 hV1 hV10)
  have K2 := hid (fun W (h : TkSl W B m tk) => asum_g B m d tk W h E2 V2 hE2 hV2 hV20)
  obtain ⟨E3, V3, hE3, hV3, hV30⟩ := ev_ex (okE (okO So9 V1 V2) 10) (V1 - V2)
  have K3 := hid (fun W => msub_c V1 V2 W E3 V3 hE3 hV3 hV30)
  obtain ⟨E4, hE4⟩ : ∃ E, E = chkY ⟨k, b, tx, sh, rows, V1, tk, V3⟩ n := ⟨_, rfl⟩
  have K4 := hid (fun Aa ca Ab cb W (h1 : Sh9 W Aa n rows) (h2 : TkSl W Ab m tk) => ychk_c ⟨k, b, tx, sh, rows, V1, tk, V3⟩ Aa Ab n ca m cb n W h1 h2 E4 hE4)
  have H1 : Hid (re = sqz E1 (sqz E2 (sqz E3 E4))) := he.out.trans (by
    unfold mEz
    rw [← hE1.out, ← HM.out, ← hE2.out]
    by_cases h1 : E1 = 0
    · rw [sE9 h1, sE9 h1]
      by_cases h2 : E2 = 0
      · rw [sE9 h2, sE9 h2, ← hV1.out h1, ← hV2.out h2, ← hE3.out]
        by_cases h3 : E3 = 0
        · rw [sE9 h3, sE9 h3, hE4, HN.out]
          unfold makeZ
          rw [← hV1.out h1, ← HM.out, ← hV2.out h2, ← hV3.out h3]
        · rw [sN9 h3, sN9 h3]
      · rw [sN9 h2, sN9 h2]
    · rw [sN9 h1, sN9 h1])
  have HZ : Hid (re = 0 → z = ⟨k, b, tx, sh, rows, V1, tk, V3⟩) := fun h => by
    have h0 := H1.out.symm.trans h
    obtain ⟨h1, h0⟩ := sZ9 h0
    obtain ⟨h2, h0⟩ := sZ9 h0
    obtain ⟨h3, _⟩ := sZ9 h0
    rw [hz.out]
    unfold makeZ
    rw [← hV1.out h1, ← HM.out, ← hV2.out h2, ← hV3.out h3]
  have HRW := hid hr
  have HTK := hid ht
  have KA := hid (fun W (hW : Below w.heap.size w W) => (clone_sr A n c rows W ((sh_row hr).below hW) (by omega)).mono fun _ _ h => h.b hW)
  have KB := hid (fun W (hW : Below w.heap.size w W) => (clone_tk B m d tk W (ht.below hW) (by omega)).mono fun _ _ h => h.b hW)
  clear hr ht hE1 hV1 hV10 hE2 hV2 hV20 hE3 hV3 hV30 hE4 he hz
  obtain ⟨bc, bt, bs⟩ := b
  dsimp only at K1 K4 HZ ⊢
  have HF1 := al9 (((HF0.out.al 41 #[.int .i64 bc, .int .i64 bt, .int .i64 bs]).al 45 #[.int .i64 0, .int .i64 0, .int .i64 0, .int .i64 0, .int .i64 0, .int .i64 0, .slice none 0 0, .int .i64 0, .slice none 0 0, .int .i64 0]))
  clear HF0
  go_enter func88, ntmps88
  go_upto_region 1 with fail
  generalize hw0 : (w.alloc (.cells #[.int .i64 bc, .int .i64 bt, .int .i64 bs] 41)).alloc (.cells #[.int .i64 0, .int .i64 0, .int .i64 0, .int .i64 0, .int .i64 0, .int .i64 0, .slice none 0 0, .int .i64 0, .slice none 0 0, .int .i64 0] 45) = w0 at *
  clear hw0
  go_cut [14] (fun v wx => ∃ (g : Nat) (Aa Ab : Option Addr) (ca cb : Nat), v = .pointer (some ⟨g, 0, none⟩) ∧ Hid (Fr w wx [(w.heap.size, 41, #[.int .i64 bc, .int .i64 bt, .int .i64 bs]), (w.heap.size + 1, 45, #[.int .i64 0, .int .i64 0, .int .i64 0, .int .i64 0, .int .i64 0, .int .i64 0, .slice none 0 0, .int .i64 0, .slice none 0 0, .int .i64 0]), (g, 45, #[.int .i64 k, .int .i64 bc, .int .i64 bt, .int .i64 bs, .int .i64 tx, .int .i64 sh, .slice Aa n ca, .int .i64 0, .slice Ab m cb, .int .i64 0])]) ∧ Hid (wx.ownsRow w.heap.size 79 2 (.slice Aa n ca) n (rows.flatMap shC)) ∧ Hid (wx.ownsRow w.heap.size 116 6 (.slice Ab m cb) m (tk.flatMap tkC)))
  case first =>
    have G : Hid (∀ W, Below w0.heap.size w0 W → Below w0.heap.size w0 W ∧ (W.cell? ⟨w.heap.size, 0, none⟩ = some (.int .i64 bc) ∧ W.cell? ⟨w.heap.size, 1, none⟩ = some (.int .i64 bt) ∧ W.cell? ⟨w.heap.size, 2, none⟩ = some (.int .i64 bs))) := fun W hW =>
      ⟨hW, (((HF1.out.ca hW).b 0 rfl).cell 0), (((HF1.out.ca hW).b 0 rfl).cell 1), (((HF1.out.ca hW).b 0 rfl).cell 2)⟩
    have yal := trivial
    have HBB := b0 w0
    have HSX := hid (b0 w0)
    go_region_held3 (fun W => Below w0.heap.size w0 W ∧ (W.cell? ⟨w.heap.size, 0, none⟩ = some (.int .i64 bc) ∧ W.cell? ⟨w.heap.size, 1, none⟩ = some (.int .i64 bt) ∧ W.cell? ⟨w.heap.size, 2, none⟩ = some (.int .i64 bs)))
      (with_reducible (first | assumption | exact G.out _ HSX.out | exact G.out _ (b0 _).drew | exact G.out _ (bA (b0 _) _).drew | exact G.out _ (bA HBB _) | exact sK G.out (by assumption) (by assumption) | exact sK G.out (by assumption) (bz1 _ _)))
      (first
        | (go_at_call 62; (with_reducible refine (KA.out _ (bT HF1.out.bl (show Below w0.heap.size w0 _ ∧ _ from by assumption).1)).mono ?_); rintro e wa ⟨⟨Aa, ca, rfl, hoa⟩, hba⟩; have hsa := (bT (show Below w0.heap.size w0 _ ∧ _ from by assumption).1 hba).size; (first | (have yal := alcd hba (Nat.le_refl _)) | skip))
        | (go_at_call 78; (with_reducible refine (KB.out _ (bT HF1.out.bl (show Below w0.heap.size w0 _ ∧ _ from by assumption).1)).mono ?_); rintro e wb ⟨⟨Ab, cb, rfl, hob⟩, hbb⟩; (first | (have yal := alct yal hbb) | (have yal := alca hbb hsa) | skip); have HBB := bT (show Below w0.heap.size w0 _ ∧ _ from by assumption).1 hbb; (first | (obtain ⟨yy, hge⟩ := yal; have HSX := hid (st10 HBB hge (.int .i64 k) (.int .i64 bc) (.int .i64 bt) (.int .i64 bs) (.int .i64 tx) (.int .i64 sh) (.slice Aa n ca) (.int .i64 0) (.slice Ab m cb) (.int .i64 0)); obtain ⟨⟨z0, z1, z2, z3, z4, z5, z6, z7, z8, z9⟩, f0, f1, f2, f3, f4, f5, f6, f7, f8, f9⟩ := yy.a10f) | skip)))
    have hw0 := HF1.out.bl.size
    · go_wp2_with fail
      go_meet
      refine ⟨_, Aa, Ab, ca, cb, rfl, hid (((HF1.out.dr.ca hba).ca hbb).al 45 #[.int .i64 k, .int .i64 bc, .int .i64 bt, .int .i64 bs, .int .i64 tx, .int .i64 sh, .slice Aa n ca, .int .i64 0, .slice Ab m cb, .int .i64 0]), hid ((oB9 hoa hbb).alloc _), hid ((hob).alloc _)⟩
    · go_wp2_with fail
      go_meet
      refine ⟨_, Aa, Ab, ca, cb, rfl, hid ((((HF1.out.dr.ca hba).al 45 #[.int .i64 0, .int .i64 0, .int .i64 0, .int .i64 0, .int .i64 0, .int .i64 0, .slice none 0 0, .int .i64 0, .slice none 0 0, .int .i64 0]).ca hbb).st10 2 rfl (.int .i64 k) (.int .i64 bc) (.int .i64 bt) (.int .i64 bs) (.int .i64 tx) (.int .i64 sh) (.slice Aa n ca) (.int .i64 0) (.slice Ab m cb) (.int .i64 0)), hid (own_st10 (oB9 (hoa.alloc _) hbb) yy (by decide) (.int .i64 k) (.int .i64 bc) (.int .i64 bt) (.int .i64 bs) (.int .i64 tx) (.int .i64 sh) (.slice Aa n ca) (.int .i64 0) (.slice Ab m cb) (.int .i64 0)), hid (own_st10 hob yy (by decide) (.int .i64 k) (.int .i64 bc) (.int .i64 bt) (.int .i64 bs) (.int .i64 tx) (.int .i64 sh) (.slice Aa n ca) (.int .i64 0) (.slice Ab m cb) (.int .i64 0))⟩
    · go_wp2_with fail
      go_meet
      refine ⟨_, Aa, Ab, ca, cb, rfl, hid ((((HF1.out.al 45 #[.int .i64 0, .int .i64 0, .int .i64 0, .int .i64 0, .int .i64 0, .int .i64 0, .slice none 0 0, .int .i64 0, .slice none 0 0, .int .i64 0]).dr.ca hba).ca hbb).st10 2 rfl (.int .i64 k) (.int .i64 bc) (.int .i64 bt) (.int .i64 bs) (.int .i64 tx) (.int .i64 sh) (.slice Aa n ca) (.int .i64 0) (.slice Ab m cb) (.int .i64 0)), hid (own_st10 (oB9 hoa hbb) yy (by decide) (.int .i64 k) (.int .i64 bc) (.int .i64 bt) (.int .i64 bs) (.int .i64 tx) (.int .i64 sh) (.slice Aa n ca) (.int .i64 0) (.slice Ab m cb) (.int .i64 0)), hid (own_st10 hob yy (by decide) (.int .i64 k) (.int .i64 bc) (.int .i64 bt) (.int .i64 bs) (.int .i64 tx) (.int .i64 sh) (.slice Aa n ca) (.int .i64 0) (.slice Ab m cb) (.int .i64 0))⟩
  case rest =>
    obtain ⟨g, Aa, Ab, ca, cb, rfl, HFc, HOA, HOB⟩ := hcut
    clear KA KB
    have c0_0 := (HFc.out.b 0 rfl).cv 0 (.int .i64 bc) rfl
    go_wp2_with fail
    refine (K1.out _ (HRW.out.below HFc.out.bl)).mono ?_
    rintro e W1 ⟨rfl, hb⟩
    clear c0_0
    replace HOA := hid (oB9 HOA.out hb)
    replace HOB := hid (oB9 HOB.out hb)
    have HF2 := hid (HFc.out.ca hb)
    clear hb HFc
    have c2_7 := (HF2.out.b 2 rfl).cv 7 (.int .i64 0) rfl
    have f2_7 := (HF2.out.b 2 rfl).free 7
    replace HOA := hid (oS9 HOA.out (HF2.out.b 2 rfl) (by decide) 7 (.int .i64 V1))
    replace HOB := hid (oS9 HOB.out (HF2.out.b 2 rfl) (by decide) 7 (.int .i64 V1))
    have HF3 := hid (HF2.out.st 2 rfl 7 (.int .i64 V1))
    clear HF2
    by_cases h0 : E1 = 0
    case neg =>
      have tr : (E1 != 0) = true := by simpa using h0
      have HE : Hid (re = E1) := H1.out.trans (sN9 h0)
      have HN0 : Hid (re ≠ 0) := by unfold Hid; rw [HE.out]; exact h0
      clear h0
      obtain ⟨c1_0, c1_1, c1_2, c1_3, c1_4, c1_5, c1_6, c1_7, c1_8, c1_9⟩ := (HF3.out.b 1 rfl).q10
      obtain ⟨f1_0, f1_1, f1_2, f1_3, f1_4, f1_5, f1_6, f1_7, f1_8, f1_9⟩ := (HF3.out.b 1 rfl).r10
      go_wp2_with fail
      refine bodyPost_ret (v := .tuple #[.agg #[.int .i64 0, .int .i64 0, .int .i64 0, .int .i64 0, .int .i64 0, .int .i64 0, .slice none 0 0, .int .i64 0, .slice none 0 0, .int .i64 0], .int .i64 E1]) (by simp [results, results88, go_sem, c1_0, c1_1, c1_2, c1_3, c1_4, c1_5, c1_6, c1_7, c1_8, c1_9]) rfl ⟨Or.inr ⟨HN0.out, by rw [HE.out]; rfl⟩, ?_⟩
      have hg := HF3.out.ge 1 rfl
      exact (bSg (bSg (bSg (bSg (bSg (bSg (bSg (bSg (bSg (bSg HF3.out.bl hg _ _) hg _ _) hg _ _) hg _ _) hg _ _) hg _ _) hg _ _) hg _ _) hg _ _) hg _ _)
    have H2 := hid (H1.out.trans (sE9 h0))
    subst h0
    go_wp2_with fail
    refine (K2.out _ (HTK.out.below HF3.out.bl)).mono ?_
    rintro e W2 ⟨rfl, hb⟩
    clear c2_7 f2_7
    replace HOA := hid (oB9 HOA.out hb)
    replace HOB := hid (oB9 HOB.out hb)
    have HF4 := hid (HF3.out.ca hb)
    clear hb HF3
    by_cases h0 : E2 = 0
    case neg =>
      have tr : (E2 != 0) = true := by simpa using h0
      have HE : Hid (re = E2) := H2.out.trans (sN9 h0)
      have HN0 : Hid (re ≠ 0) := by unfold Hid; rw [HE.out]; exact h0
      clear h0
      obtain ⟨c1_0, c1_1, c1_2, c1_3, c1_4, c1_5, c1_6, c1_7, c1_8, c1_9⟩ := (HF4.out.b 1 rfl).q10
      obtain ⟨f1_0, f1_1, f1_2, f1_3, f1_4, f1_5, f1_6, f1_7, f1_8, f1_9⟩ := (HF4.out.b 1 rfl).r10
      go_wp2_with fail
      refine bodyPost_ret (v := .tuple #[.agg #[.int .i64 0, .int .i64 0, .int .i64 0, .int .i64 0, .int .i64 0, .int .i64 0, .slice none 0 0, .int .i64 0, .slice none 0 0, .int .i64 0], .int .i64 E2]) (by simp [results, results88, go_sem, c1_0, c1_1, c1_2, c1_3, c1_4, c1_5, c1_6, c1_7, c1_8, c1_9]) rfl ⟨Or.inr ⟨HN0.out, by rw [HE.out]; rfl⟩, ?_⟩
      have hg := HF4.out.ge 1 rfl
      exact (bSg (bSg (bSg (bSg (bSg (bSg (bSg (bSg (bSg (bSg HF4.out.bl hg _ _) hg _ _) hg _ _) hg _ _) hg _ _) hg _ _) hg _ _) hg _ _) hg _ _) hg _ _)
    have H3 := hid (H2.out.trans (sE9 h0))
    subst h0
    have c2_7 := (HF4.out.b 2 rfl).cv 7 (.int .i64 V1) rfl
    go_wp2_with fail
    refine (K3.out _).mono ?_
    rintro e W3 ⟨rfl, hb⟩
    clear c2_7
    replace HOA := hid (oB9 HOA.out hb)
    replace HOB := hid (oB9 HOB.out hb)
    have HF5 := hid (HF4.out.ca hb)
    clear hb HF4
    have c2_9 := (HF5.out.b 2 rfl).cv 9 (.int .i64 0) rfl
    have f2_9 := (HF5.out.b 2 rfl).free 9
    replace HOA := hid (oS9 HOA.out (HF5.out.b 2 rfl) (by decide) 9 (.int .i64 V3))
    replace HOB := hid (oS9 HOB.out (HF5.out.b 2 rfl) (by decide) 9 (.int .i64 V3))
    have HF6 := hid (HF5.out.st 2 rfl 9 (.int .i64 V3))
    clear HF5
    by_cases h0 : E3 = 0
    case neg =>
      have tr : (E3 != 0) = true := by simpa using h0
      have HE : Hid (re = E3) := H3.out.trans (sN9 h0)
      have HN0 : Hid (re ≠ 0) := by unfold Hid; rw [HE.out]; exact h0
      clear h0
      obtain ⟨c1_0, c1_1, c1_2, c1_3, c1_4, c1_5, c1_6, c1_7, c1_8, c1_9⟩ := (HF6.out.b 1 rfl).q10
      obtain ⟨f1_0, f1_1, f1_2, f1_3, f1_4, f1_5, f1_6, f1_7, f1_8, f1_9⟩ := (HF6.out.b 1 rfl).r10
      go_wp2_with fail
      refine bodyPost_ret (v := .tuple #[.agg #[.int .i64 0, .int .i64 0, .int .i64 0, .int .i64 0, .int .i64 0, .int .i64 0, .slice none 0 0, .int .i64 0, .slice none 0 0, .int .i64 0], .int .i64 E3]) (by simp [results, results88, go_sem, c1_0, c1_1, c1_2, c1_3, c1_4, c1_5, c1_6, c1_7, c1_8, c1_9]) rfl ⟨Or.inr ⟨HN0.out, by rw [HE.out]; rfl⟩, ?_⟩
      have hg := HF6.out.ge 1 rfl
      exact (bSg (bSg (bSg (bSg (bSg (bSg (bSg (bSg (bSg (bSg HF6.out.bl hg _ _) hg _ _) hg _ _) hg _ _) hg _ _) hg _ _) hg _ _) hg _ _) hg _ _) hg _ _)
    have H4 := hid (H3.out.trans (sE9 h0))
    subst h0
    obtain ⟨c2_0, c2_1, c2_2, c2_3, c2_4, c2_5, c2_6, c2_7, c2_8, c2_9_6⟩ := (HF6.out.b 2 rfl).q10
    go_wp2_with fail
    refine (K4.out _ _ _ _ _ (row_sh (ow9 sl9 HOA.out HN.out (by omega) (by decide))) (ow9 tkC_len' HOB.out HM.out (by omega) (by decide))).mono ?_
    rintro e W4 ⟨rfl, hb⟩
    clear c2_9 f2_9 c2_0 c2_1 c2_2 c2_3 c2_4 c2_5 c2_6 c2_7 c2_8 c2_9_6
    replace HOA := hid (oB9 HOA.out hb)
    replace HOB := hid (oB9 HOB.out hb)
    have HF7 := hid (HF6.out.ca hb)
    clear hb HF6
    by_cases h0 : E4 = 0
    case neg =>
      have tr : (E4 != 0) = true := by simpa using h0
      have HE : Hid (re = E4) := H4.out
      have HN0 : Hid (re ≠ 0) := by unfold Hid; rw [HE.out]; exact h0
      clear h0
      obtain ⟨c1_0, c1_1, c1_2, c1_3, c1_4, c1_5, c1_6, c1_7, c1_8, c1_9⟩ := (HF7.out.b 1 rfl).q10
      obtain ⟨f1_0, f1_1, f1_2, f1_3, f1_4, f1_5, f1_6, f1_7, f1_8, f1_9⟩ := (HF7.out.b 1 rfl).r10
      go_wp2_with fail
      refine bodyPost_ret (v := .tuple #[.agg #[.int .i64 0, .int .i64 0, .int .i64 0, .int .i64 0, .int .i64 0, .int .i64 0, .slice none 0 0, .int .i64 0, .slice none 0 0, .int .i64 0], .int .i64 E4]) (by simp [results, results88, go_sem, c1_0, c1_1, c1_2, c1_3, c1_4, c1_5, c1_6, c1_7, c1_8, c1_9]) rfl ⟨Or.inr ⟨HN0.out, by rw [HE.out]; rfl⟩, ?_⟩
      have hg := HF7.out.ge 1 rfl
      exact (bSg (bSg (bSg (bSg (bSg (bSg (bSg (bSg (bSg (bSg HF7.out.bl hg _ _) hg _ _) hg _ _) hg _ _) hg _ _) hg _ _) hg _ _) hg _ _) hg _ _) hg _ _)
    have H5 : Hid (re = 0) := H4.out.trans h0
    subst h0
    have HZZ := hid (HZ.out H5.out)
    clear K1 K2 K3 K4 HZ
    obtain ⟨c2_0, c2_1, c2_2, c2_3, c2_4, c2_5, c2_6, c2_7, c2_8, c2_9⟩ := (HF7.out.b 2 rfl).q10
    obtain ⟨c1_0, c1_1, c1_2, c1_3, c1_4, c1_5, c1_6, c1_7, c1_8, c1_9⟩ := (HF7.out.b 1 rfl).q10
    obtain ⟨f1_0, f1_1, f1_2, f1_3, f1_4, f1_5, f1_6, f1_7, f1_8, f1_9⟩ := (HF7.out.b 1 rfl).r10
    go_wp2_with fail
    obtain rfl := HZZ.out
    have hg := HF7.out.ge 1 rfl
    refine bodyPost_ret (v := .tuple #[.agg #[.int .i64 k, .int .i64 bc, .int .i64 bt, .int .i64 bs, .int .i64 tx, .int .i64 sh, .slice Aa n ca, .int .i64 V1, .slice Ab m cb, .int .i64 V3], .int .i64 0]) (by simp [results, results88, go_sem, c1_0, c1_1, c1_2, c1_3, c1_4, c1_5, c1_6, c1_7, c1_8, c1_9]) rfl ⟨Or.inl ⟨H5.out, Aa, ca, Ab, cb, ?_, ?_, ?_⟩, ?_⟩
    · show _ = Ending.returned (.tuple #[.agg (spC _ Aa rows.length ca Ab tk.length cb), _])
      rw [← HN.out, ← HM.out]
      rfl
    · show World.ownsRow _ _ _ _ (.slice Aa rows.length ca) rows.length _
      rw [← HN.out]
      exact own_st10 HOA.out (HF7.out.b 1 rfl) (by decide) (.int .i64 k) (.int .i64 bc) (.int .i64 bt) (.int .i64 bs) (.int .i64 tx) (.int .i64 sh) (.slice Aa n ca) (.int .i64 V1) (.slice Ab m cb) (.int .i64 V3)
    · show World.ownsRow _ _ _ _ (.slice Ab tk.length cb) tk.length _
      rw [← HM.out]
      exact own_st10 HOB.out (HF7.out.b 1 rfl) (by decide) (.int .i64 k) (.int .i64 bc) (.int .i64 bt) (.int .i64 bs) (.int .i64 tx) (.int .i64 sh) (.slice Aa n ca) (.int .i64 V1) (.slice Ab m cb) (.int .i64 V3)
    · exact st10 HF7.out.bl hg (.int .i64 k) (.int .i64 bc) (.int .i64 bt) (.int .i64 bs) (.int .i64 tx) (.int .i64 sh) (.slice Aa n ca) (.int .i64 V1) (.slice Ab m cb) (.int .i64 V3)
end Go.Proofs.YtiaabmhjkoohmaaGreat
