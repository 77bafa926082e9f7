/-
  Contracts of functions that the claim reaches, and the plain laws behind them. Conditions as named in each.
-/
import Derived.Test.YtiaabmhjkoohmaaGreatYrM3
namespace Go.Proofs.YtiaabmhjkoohmaaGreat
set_option linter.unusedVariables false
set_option linter.unusedSimpArgs false
structure In where
 c : Cd
 l : List El
def in0 : In := ⟨cd0, []⟩
structure Cln where
 per : List Bs
 sum : Bs
 tax : Int
 sh : List Sh
def cln0 : Cln := ⟨[], bs0, 0, []⟩
def perV (kds : List Kd) (g : Int) (l : List In) (k : Nat) : Bs :=
 if k + 1 = l.length then bothV Ao9 (ofV kds (l.getD k in0).l) ⟨g, g, g⟩ else ofV kds (l.getD k in0).l
def perE (kds : List Kd) (g : Int) (l : List In) (k : Nat) : Int :=
 sqz (ofE kds (l.getD k in0).l) (if k + 1 = l.length then bEz Ao9 (ofV kds (l.getD k in0).l) ⟨g, g, g⟩ else 0)
def persN (kds : List Kd) (g : Int) (l : List In) (k : Nat) : List Bs := (List.range k).map (perV kds g l)
def stepsN (kds : List Kd) (g : Int) (l : List In) (k : Nat) : List St := (List.range k).map fun i => ⟨(l.getD i in0).c, (perV kds g l i).t⟩
theorem persN_next (kds : List Kd) (g : Int) (l : List In) (k : Nat) : persN kds g l (k + 1) = persN kds g l k ++ [perV kds g l k] := by simp [persN, List.range_succ]
theorem stepsN_next (kds : List Kd) (g : Int) (l : List In) (k : Nat) : stepsN kds g l (k + 1) = stepsN kds g l k ++ [⟨(l.getD k in0).c, (perV kds g l k).t⟩] := by simp [stepsN, List.range_succ]
theorem persN_len (kds : List Kd) (g : Int) (l : List In) (k : Nat) : (persN kds g l k).length = k := by simp [persN]
theorem stepsN_len (kds : List Kd) (g : Int) (l : List In) (k : Nat) : (stepsN kds g l k).length = k := by simp [stepsN]
def okTb (cts : List Ct) (l : List Bs) (nc n : Nat) : Bool := (List.range n).all (okY cts l nc) && (List.range n).all fun k => (List.range nc).all fun i => okS (rowY cts l nc) k i
theorem okTb_iff (cts : List Ct) (l : List Bs) (nc n : Nat) : okTb cts l nc n = true ↔ okT cts l nc n := by
 unfold okTb okT
 simp only [Bool.and_eq_true, List.all_eq_true, List.mem_range]
 exact ⟨fun h => ⟨h.1, fun k i hk hi => h.2 k hk i hi⟩, fun h => ⟨h.1, fun k hk i hi => h.2 k i hk hi⟩⟩
def rEz (t : Tb) (nom g : Int) (l : List In) : Int :=
 sqz (fz9 (perE t.kds g l) l.length) (sqz (fz9 (yE t.sch t.rnd nom (stepsN t.kds g l l.length)) l.length) (sqz (yEz (persN t.kds g l l.length)) (okE (okTb t.cts (persN t.kds g l l.length) t.cts.length l.length) 10)))
def reckV (t : Tb) (nom g : Int) (l : List In) : Cln :=
 ⟨persN t.kds g l l.length, yearV (persN t.kds g l l.length), dueA t.sch t.rnd nom (stepsN t.kds g l l.length) l.length, sumL (rowY t.cts (persN t.kds g l l.length) t.cts.length) t.cts.length l.length 0⟩
def rslH (t : Tb) (was : To) (c : Cln) (back : Bool) : Int := partI (c.tax - was.tx) (limI t.lim (bothV So9 c.sum was.b).c) back
def rslE (t : Tb) (was : To) (c : Cln) (k : Int) (back : Bool) : Int :=
 sqz (bEz So9 c.sum was.b) (sqz (stepE t.lim was.tx was.sh (bothV So9 c.sum was.b).c c.tax back) (sqz (deltaE c.sh was.rows) (mEz k (bothV So9 c.sum was.b) (rslH t was c back) (c.tax - was.tx - rslH t was c back) (dLz c.sh was.rows c.sh.length) [])))
def rslZ (t : Tb) (was : To) (c : Cln) (k : Int) (back : Bool) : Sp :=
 makeZ k (bothV So9 c.sum was.b) (rslH t was c back) (c.tax - was.tx - rslH t was c back) (dLz c.sh was.rows c.sh.length) []
structure Em where
 tb : Tb
 c : Cd
 prot : Int
 next : List El
 ins : List In
 yr : Yr
 bk : List Od
def ytryE (Y : Yr) (s : Sp) : Int := sqz (chkY s Y.n) (sqz (eqE (s.p = (Y.sl.length : Int) + 1) 6) (taddE Y.t s))
def ypostV (Y : Yr) (s : Sp) : Yr := if ytryE Y s = 0 then ⟨Y.n, Y.sl ++ [s], taddV Y.t s⟩ else Y
def openE (E : Em) (cnt : Int) : Int := if (E.ins.length : Int) = cnt then 210 else 0
def tryIn (E : Em) : List In := E.ins ++ [⟨E.c, E.next⟩]
def tryV (E : Em) (nom g : Int) : Sp := rslZ E.tb E.yr.t (reckV E.tb nom g (tryIn E)) ((E.ins.length : Int) + 1) (!E.c.al)
def tEz (E : Em) (nom cnt g : Int) : Int :=
 sqz (openE E cnt) (sqz (rEz E.tb nom g (tryIn E)) (sqz (rslE E.tb E.yr.t (reckV E.tb nom g (tryIn E)) ((E.ins.length : Int) + 1) (!E.c.al)) (ytryE E.yr (tryV E nom g))))
def bookE (l : List Od) (net prot : Int) : Int := sqz (sVz l net prot) (if tookE l (tkL l net prot l.length) = 0 then 0 else 10)
def runTk (E : Em) (nom : Int) : List Tk := tkL E.bk (tryV E nom 0).net E.prot E.bk.length
def rSz (E : Em) (nom : Int) : Sp := makeZ (tryV E nom 0).p (tryV E nom 0).b (tryV E nom 0).tx (tryV E nom 0).sh (tryV E nom 0).rows (runTk E nom)
def runE (E : Em) (nom cnt : Int) : Int :=
 sqz (tEz E nom cnt 0) (sqz (bookE E.bk (tryV E nom 0).net E.prot) (sqz (mEz (tryV E nom 0).p (tryV E nom 0).b (tryV E nom 0).tx (tryV E nom 0).sh (tryV E nom 0).rows (runTk E nom)) (ytryE E.yr (rSz E nom))))
def runV (E : Em) (nom : Int) : Em := { E with ins := tryIn E, next := [], yr := ⟨E.yr.n, E.yr.sl ++ [rSz E nom], taddV E.yr.t (rSz E nom)⟩, bk := tookL E.bk (runTk E nom) }
def payE (E : Em) (cnt : Int) (l : List El) : Int := sqz (openE E cnt) (kAz E.tb.kds (E.next ++ l) (E.next ++ l).length)
def payV (E : Em) (l : List El) : Em := { E with next := E.next ++ l }
def codeE (E : Em) (cnt : Int) (c : Cd) : Int := sqz (openE E cnt) (fitE E.tb.sch c)
def codeV (E : Em) (c : Cd) : Em := { E with c := c }
def protE (x : Int) : Int := if mrB x = true then (if x < 0 then 1 else 0) else 10
def protV (E : Em) (x : Int) : Em := { E with prot := x }
def putIn (l : List In) (k : Int) (els : List El) : List In := l.set (k.toNat - 1) ⟨(l.getD (k.toNat - 1) in0).c, els⟩
def replE (E : Em) (nom cnt k : Int) (els : List El) : Int :=
 if k < 1 ∨ (E.ins.length : Int) < k then 230 else sqz (openE E cnt) (sqz (kAz E.tb.kds els els.length) (rEz E.tb nom 0 (putIn E.ins k els)))
def replV (E : Em) (k : Int) (els : List El) : Em := { E with ins := putIn E.ins k els }
def ordEV (E : Em) (z : Od) : Em := { E with bk := addL E.bk z }
def canEV (E : Em) (id : Int) : Em := { E with bk := if canE E.bk id = 0 then cutO E.bk id else E.bk }
def newE (t : Tb) (c : Cd) : Int := sqz (keepE t) (fitE t.sch c)
def newV (t : Tb) (c : Cd) : Em := ⟨t, c, 0, [], [], yr0 t.cts.length, []⟩
end Go.Proofs.YtiaabmhjkoohmaaGreat
namespace Go.Proofs.YtiaabmhjkoohmaaGreat
set_option maxRecDepth 100000
set_option maxHeartbeats 25600000
set_option linter.unusedVariables false
set_option linter.unusedSimpArgs false
open Go.RowKit Tryz
open Lib (hid)
def TryR (E : Int) (V : To) (w : World) (e : Ending) (w' : World) : Prop :=
 (∃ (T : To) (A : Option Addr) (n c : Nat), e = .returned (.tuple #[.agg (toC T A n c), .int .i64 E]) ∧ (E = 0 → T = V ∧ n = V.rows.length ∧ w'.ownsRow w.heap.size 79 2 (.slice A n c) n (V.rows.flatMap shC))) ∧ Below w.heap.size w w'
theorem AddR'.u {E : Int} {V t : To} {A : Option Addr} {n c : Nat} {w w' : World} {e : Ending} (h : AddR' E V t A n c w e w') : TryR E V w e w' := by
 obtain ⟨⟨h0, A', c', he, ho⟩ | ⟨h0, he⟩, hb⟩ := h
 ·
  exact ⟨⟨V, A', _, c', by rw [he, h0], fun _ => ⟨rfl, rfl, ho⟩⟩, hb⟩
 ·
  exact ⟨⟨t, A, n, c, he, fun h => absurd h h0⟩, hb⟩
theorem ytry_c (p base : Nat) (Y : Yr) (A : Option Addr) (c : Nat) (B : Option Addr) (d : Nat) (z : Sp) (A2 B2 : Option Addr) (n2 c2 m2 d2 : Nat) (w : World) (h : Ya9 w base p Y A c B d) (hn : Y.t.rows.length ≤ 64) (hl : Y.sl.length ≤ 1000) (hr : Sh9 w A2 n2 z.rows) (ht : TkSl w B2 m2 z.tk) (re : Int) (V : To) (he : Hid (re = ytryE Y z)) (hV : Hid (V = taddV Y.t z)) :
  Calls prog 55 #[.pointer (some ⟨p, 0, none⟩), .agg (spC z A2 n2 c2 B2 m2 d2)] w (TryR re V w) := by
 have HF0 := hid (Fr.start w)
 obtain ⟨n, hN⟩ : ∃ n, n = Y.t.rows.length := ⟨_, rfl⟩
 obtain ⟨k, hK⟩ : ∃ k, k = Y.sl.length := ⟨_, rfl⟩
 obtain ⟨E1, hE1⟩ : ∃ E, E = chkY z Y.n := ⟨_, rfl⟩
 have K1 := hid (fun W (h1 : Sh9 W A2 n2 z.rows) (h2 : TkSl W B2 m2 z.tk) => ychk_c z A2 B2 n2 c2 m2 d2 Y.n W h1 h2 E1 hE1)
 obtain ⟨E3, hE3⟩ : ∃ E, E = taddE Y.t z := ⟨_, rfl⟩
 have K3 := hid (fun W (h0 : Sh9 W B n Y.t.rows) (h1 : Sh9 W A2 n2 z.rows) (h2 : TkSl W B2 m2 z.tk) => (yadd_c Y.t z B A2 B2 n d n2 c2 m2 d2 W h0 h1 h2 (by omega) E3 V hE3 hV).mono fun _ _ h => h.u)
 have H1 : Hid (re = sqz E1 (sqz (eqE (z.p = (k : Int) + 1) 6) E3)) := he.out.trans (by unfold ytryE; rw [hE1, hE3, hK])
 have HL : Hid (V.rows.length = n) := by unfold Hid; rw [hV.out, hN]; exact postL_len _ _
 have kw : wrap64 ((k : Int) + 1) = (k : Int) + 1 := by unfold wrap64; omega
 have hk := h.blk
 have HRW : Hid (Sh9 w B n Y.t.rows) := row_sh (ow9 sl9 (by rw [hN]; exact h.rows) hN (by omega) (by decide))
 have HSW := hid hr
 have HTK := hid ht
 unfold yrC at hk
 rw [← hN, ← hK] at hk
 clear h hn hl hN hK hE1 hE3 he hV hr ht
 obtain ⟨yn, ys, ⟨⟨bc, bt, bs⟩, tx, sh, rows, net, tk, py⟩⟩ := Y
 obtain ⟨sp, ⟨sc, st, ss⟩, stx, ssh, srows, snet, stk, spy⟩ := z
 have HY := hid hk
 clear hk
 unfold TryR toC spC
 unfold TryR toC spC at K3
 dsimp only at K1 K3 H1 HRW HSW HTK HY ⊢
 have HF1 := al9 (((HF0.out.al 45 #[.int .i64 sp, .int .i64 sc, .int .i64 st, .int .i64 ss, .int .i64 stx, .int .i64 ssh, .slice A2 n2 c2, .int .i64 snet, .slice B2 m2 d2, .int .i64 spy]).al 82 #[.int .i64 0, .int .i64 0, .int .i64 0, .int .i64 0, .int .i64 0, .slice none 0 0, .int .i64 0, .int .i64 0, .int .i64 0]))
 clear HF0
 go_enter func55, ntmps55
 obtain ⟨c0_0, c0_1, c0_2, c0_3, c0_4, c0_5, c0_6, c0_7, c0_8, c0_9⟩ := (HF1.out.b 0 rfl).q10
 obtain ⟨c1_0, c1_1, c1_2, c1_3, c1_4, c1_5, c1_6, c1_7, c1_8⟩ := (HF1.out.b 1 rfl).q9
 obtain ⟨f1_0, f1_1, f1_2, f1_3, f1_4, f1_5, f1_6, f1_7, f1_8⟩ := (HF1.out.b 1 rfl).r9
 have qz := HY.out.t HF1.out.bl
 have yy0 := qz.cv 0 (.int .i64 yn) rfl
 have yy1 := qz.cv 1 (.slice A k c) rfl
 have yy2 := qz.cv 2 (.int .i64 bc) rfl
 have yy3 := qz.cv 3 (.int .i64 bt) rfl
 have yy4 := qz.cv 4 (.int .i64 bs) rfl
 have yy5 := qz.cv 5 (.int .i64 tx) rfl
 have yy6 := qz.cv 6 (.int .i64 sh) rfl
 have yy7 := qz.cv 7 (.slice B n d) rfl
 have yy8 := qz.cv 8 (.int .i64 net) rfl
 have yy9 := qz.cv 9 (.int .i64 tk) rfl
 have yy10 := qz.cv 10 (.int .i64 py) rfl
 clear qz
 go_wp2_with fail
 clear c0_0 c0_1 c0_2 c0_3 c0_4 c0_5 c0_6 c0_7 c0_8 c0_9 c1_0 f1_0 c1_1 f1_1 c1_2 f1_2 c1_3 f1_3 c1_4 f1_4 c1_5 f1_5 c1_6 f1_6 c1_7 f1_7 c1_8 f1_8 yy0 yy1 yy2 yy3 yy4 yy5 yy6 yy7 yy8 yy9 yy10
 generalize hwn : (w.alloc (.cells #[.int .i64 sp, .int .i64 sc, .int .i64 st, .int .i64 ss, .int .i64 stx, .int .i64 ssh, .slice A2 n2 c2, .int .i64 snet, .slice B2 m2 d2, .int .i64 spy] 45)).alloc (.cells #[.int .i64 0, .int .i64 0, .int .i64 0, .int .i64 0, .int .i64 0, .slice none 0 0, .int .i64 0, .int .i64 0, .int .i64 0] 82) = v1 at *
 clear hwn
 have KK := hid (fun W (hW : Below v1.heap.size v1 W) => K1.out W (HSW.out.below (HF1.out.ca hW).bl) (HTK.out.below (HF1.out.ca hW).bl))
 have G : Hid (∀ W, Below v1.heap.size v1 W → Below v1.heap.size v1 W ∧ (W.cell? ⟨w.heap.size, 0, none⟩ = some (.int .i64 sp) ∧ W.cell? ⟨w.heap.size, 1, none⟩ = some (.int .i64 sc) ∧ W.cell? ⟨w.heap.size, 2, none⟩ = some (.int .i64 st) ∧ W.cell? ⟨w.heap.size, 3, none⟩ = some (.int .i64 ss) ∧ W.cell? ⟨w.heap.size, 4, none⟩ = some (.int .i64 stx) ∧ W.cell? ⟨w.heap.size, 5, none⟩ = some (.int .i64 ssh) ∧ W.cell? ⟨w.heap.size, 6, none⟩ = some (.slice A2 n2 c2) ∧ W.cell? ⟨w.heap.size, 7, none⟩ = some (.int .i64 snet) ∧ W.cell? ⟨w.heap.size, 8, none⟩ = some (.slice B2 m2 d2) ∧ W.cell? ⟨w.heap.size, 9, none⟩ = some (.int .i64 spy) ∧ W.cell? ⟨p, 0, none⟩ = some (.int .i64 yn))) := fun W hW => ⟨hW, ((HF1.out.ca hW).b 0 rfl).cv 0 _ rfl, ((HF1.out.ca hW).b 0 rfl).cv 1 _ rfl, ((HF1.out.ca hW).b 0 rfl).cv 2 _ rfl, ((HF1.out.ca hW).b 0 rfl).cv 3 _ rfl, ((HF1.out.ca hW).b 0 rfl).cv 4 _ rfl, ((HF1.out.ca hW).b 0 rfl).cv 5 _ rfl, ((HF1.out.ca hW).b 0 rfl).cv 6 _ rfl, ((HF1.out.ca hW).b 0 rfl).cv 7 _ rfl, ((HF1.out.ca hW).b 0 rfl).cv 8 _ rfl, ((HF1.out.ca hW).b 0 rfl).cv 9 _ rfl, (HY.out.t (HF1.out.ca hW).bl).cv 0 _ rfl⟩
 go_region_held3 (fun W => Below v1.heap.size v1 W ∧ (W.cell? ⟨w.heap.size, 0, none⟩ = some (.int .i64 sp) ∧ W.cell? ⟨w.heap.size, 1, none⟩ = some (.int .i64 sc) ∧ W.cell? ⟨w.heap.size, 2, none⟩ = some (.int .i64 st) ∧ W.cell? ⟨w.heap.size, 3, none⟩ = some (.int .i64 ss) ∧ W.cell? ⟨w.heap.size, 4, none⟩ = some (.int .i64 stx) ∧ W.cell? ⟨w.heap.size, 5, none⟩ = some (.int .i64 ssh) ∧ W.cell? ⟨w.heap.size, 6, none⟩ = some (.slice A2 n2 c2) ∧ W.cell? ⟨w.heap.size, 7, none⟩ = some (.int .i64 snet) ∧ W.cell? ⟨w.heap.size, 8, none⟩ = some (.slice B2 m2 d2) ∧ W.cell? ⟨w.heap.size, 9, none⟩ = some (.int .i64 spy) ∧ W.cell? ⟨p, 0, none⟩ = some (.int .i64 yn)))
  (with_reducible (first | assumption | exact G.out _ (b0 _).drew | exact sK G.out (by assumption) (by assumption)))
  ((go_at_call 89; (with_reducible refine (KK.out _ (show Below v1.heap.size v1 _ ∧ _ from by assumption).1).mono ?_); rintro e W1 ⟨rfl, hb⟩; have HBB := bT (show Below v1.heap.size v1 _ ∧ _ from by assumption).1 hb))
 have HF2 := hid (HF1.out.ca HBB)
 clear HBB hb G KK HF1
 try clear hwn
 obtain ⟨c0_0, c0_1, c0_2, c0_3, c0_4, c0_5, c0_6, c0_7, c0_8, c0_9⟩ := (HF2.out.b 0 rfl).q10
 obtain ⟨c1_0, c1_1, c1_2, c1_3, c1_4, c1_5, c1_6, c1_7, c1_8⟩ := (HF2.out.b 1 rfl).q9
 obtain ⟨f1_0, f1_1, f1_2, f1_3, f1_4, f1_5, f1_6, f1_7, f1_8⟩ := (HF2.out.b 1 rfl).r9
 have qz := HY.out.t HF2.out.bl
 have yy0 := qz.cv 0 (.int .i64 yn) rfl
 have yy1 := qz.cv 1 (.slice A k c) rfl
 have yy2 := qz.cv 2 (.int .i64 bc) rfl
 have yy3 := qz.cv 3 (.int .i64 bt) rfl
 have yy4 := qz.cv 4 (.int .i64 bs) rfl
 have yy5 := qz.cv 5 (.int .i64 tx) rfl
 have yy6 := qz.cv 6 (.int .i64 sh) rfl
 have yy7 := qz.cv 7 (.slice B n d) rfl
 have yy8 := qz.cv 8 (.int .i64 net) rfl
 have yy9 := qz.cv 9 (.int .i64 tk) rfl
 have yy10 := qz.cv 10 (.int .i64 py) rfl
 clear qz
 by_cases h0 : E1 = 0
 case neg =>
  have tr : (E1 != 0) = true := by simpa using h0
  have HE : Hid (re = E1) := H1.out.trans (sN9 h0)
  have HN0 : Hid (re ≠ 0) := by unfold Hid; rw [HE.out]; exact h0
  clear h0
  obtain ⟨c1_0_2, c1_1_2, c1_2_2, c1_3_2, c1_4_2, c1_5_2, c1_6_2, c1_7_2, c1_8_2⟩ := (HF2.out.b 1 rfl).q9
  obtain ⟨f1_0_2, f1_1_2, f1_2_2, f1_3_2, f1_4_2, f1_5_2, f1_6_2, f1_7_2, f1_8_2⟩ := (HF2.out.b 1 rfl).r9
  go_wp2_with fail
  refine bodyPost_ret (v := .tuple #[.agg #[.int .i64 0, .int .i64 0, .int .i64 0, .int .i64 0, .int .i64 0, .slice none 0 0, .int .i64 0, .int .i64 0, .int .i64 0], .int .i64 E1]) (by simp [results, results55, go_sem, c1_0, c1_1, c1_2, c1_3, c1_4, c1_5, c1_6, c1_7, c1_8, c1_0_2, c1_1_2, c1_2_2, c1_3_2, c1_4_2, c1_5_2, c1_6_2, c1_7_2, c1_8_2]) rfl ⟨⟨to0 0, none, 0, 0, by rw [HE.out]; rfl, fun h => absurd h HN0.out⟩, ?_⟩
  have hg := HF2.out.ge 1 rfl
  exact st9 HF2.out.bl hg (.int .i64 0) (.int .i64 0) (.int .i64 0) (.int .i64 0) (.int .i64 0) (.slice none 0 0) (.int .i64 0) (.int .i64 0) (.int .i64 0)
 have H2 := hid (H1.out.trans (sE9 h0))
 subst h0
 go_wp2_with fail
 go_quiet (fail)
 clear c0_0 c0_1 c0_2 c0_3 c0_4 c0_5 c0_6 c0_7 c0_8 c0_9 c1_0 f1_0 c1_1 f1_1 c1_2 f1_2 c1_3 f1_3 c1_4 f1_4 c1_5 f1_5 c1_6 f1_6 c1_7 f1_7 c1_8 f1_8 yy0 yy1 yy2 yy3 yy4 yy5 yy6 yy7 yy8 yy9 yy10
 have HF3 := hid (HF2.out.drN nq)
 clear HF2
 generalize W1.drewN nq = q1 at *
 obtain ⟨c0_0, c0_1, c0_2, c0_3, c0_4, c0_5, c0_6, c0_7, c0_8, c0_9⟩ := (HF3.out.b 0 rfl).q10
 obtain ⟨c1_0, c1_1, c1_2, c1_3, c1_4, c1_5, c1_6, c1_7, c1_8⟩ := (HF3.out.b 1 rfl).q9
 obtain ⟨f1_0, f1_1, f1_2, f1_3, f1_4, f1_5, f1_6, f1_7, f1_8⟩ := (HF3.out.b 1 rfl).r9
 by_cases h0 : sp = (k : Int) + 1
 case neg =>
  have tr : (sp != (k : Int) + 1) = true := by simpa using h0
  have HE : Hid (re = 6) := H2.out.trans (by unfold eqE; rw [if_neg h0]; rfl)
  have HN0 : Hid (re ≠ 0) := by unfold Hid; rw [HE.out]; decide
  clear h0
  obtain ⟨c1_0_3, c1_1_3, c1_2_3, c1_3_3, c1_4_3, c1_5_3, c1_6_3, c1_7_3, c1_8_3⟩ := (HF3.out.b 1 rfl).q9
  obtain ⟨f1_0_3, f1_1_3, f1_2_3, f1_3_3, f1_4_3, f1_5_3, f1_6_3, f1_7_3, f1_8_3⟩ := (HF3.out.b 1 rfl).r9
  go_wp2_with fail
  refine bodyPost_ret (v := .tuple #[.agg #[.int .i64 0, .int .i64 0, .int .i64 0, .int .i64 0, .int .i64 0, .slice none 0 0, .int .i64 0, .int .i64 0, .int .i64 0], .int .i64 6]) (by simp [results, results55, go_sem, c1_0, c1_1, c1_2, c1_3, c1_4, c1_5, c1_6, c1_7, c1_8, c1_0_3, c1_1_3, c1_2_3, c1_3_3, c1_4_3, c1_5_3, c1_6_3, c1_7_3, c1_8_3]) rfl ⟨⟨to0 0, none, 0, 0, by rw [HE.out]; rfl, fun h => absurd h HN0.out⟩, ?_⟩
  have hg := HF3.out.ge 1 rfl
  exact st9 HF3.out.bl hg (.int .i64 0) (.int .i64 0) (.int .i64 0) (.int .i64 0) (.int .i64 0) (.slice none 0 0) (.int .i64 0) (.int .i64 0) (.int .i64 0)
 have tr : (sp != (k : Int) + 1) = false := by simpa using h0
 have H3 : Hid (re = E3) := H2.out.trans (by unfold eqE; rw [if_pos h0]; exact sE9 rfl)
 clear h0 H2
 clear kw
 go_upto_region 6 with fail
 clear c0_0 c0_1 c0_2 c0_3 c0_4 c0_5 c0_6 c0_7 c0_8 c0_9 c1_0 f1_0 c1_1 f1_1 c1_2 f1_2 c1_3 f1_3 c1_4 f1_4 c1_5 f1_5 c1_6 f1_6 c1_7 f1_7 c1_8 f1_8
 generalize hwn : q1 = v2 at *
 clear hwn
 have KK := hid (fun W (hW : Below v2.heap.size v2 W) => K3.out W (HRW.out.below (HF3.out.ca hW).bl) (HSW.out.below (HF3.out.ca hW).bl) (HTK.out.below (HF3.out.ca hW).bl))
 have HSZ := hid HF3.out.bl.size
 have G : Hid (∀ W, Below v2.heap.size v2 W → Below v2.heap.size v2 W ∧ (W.cell? ⟨w.heap.size, 0, none⟩ = some (.int .i64 sp) ∧ W.cell? ⟨w.heap.size, 1, none⟩ = some (.int .i64 sc) ∧ W.cell? ⟨w.heap.size, 2, none⟩ = some (.int .i64 st) ∧ W.cell? ⟨w.heap.size, 3, none⟩ = some (.int .i64 ss) ∧ W.cell? ⟨w.heap.size, 4, none⟩ = some (.int .i64 stx) ∧ W.cell? ⟨w.heap.size, 5, none⟩ = some (.int .i64 ssh) ∧ W.cell? ⟨w.heap.size, 6, none⟩ = some (.slice A2 n2 c2) ∧ W.cell? ⟨w.heap.size, 7, none⟩ = some (.int .i64 snet) ∧ W.cell? ⟨w.heap.size, 8, none⟩ = some (.slice B2 m2 d2) ∧ W.cell? ⟨w.heap.size, 9, none⟩ = some (.int .i64 spy) ∧ W.cell? ⟨p, 2, none⟩ = some (.int .i64 bc) ∧ W.cell? ⟨p, 3, none⟩ = some (.int .i64 bt) ∧ W.cell? ⟨p, 4, none⟩ = some (.int .i64 bs) ∧ W.cell? ⟨p, 5, none⟩ = some (.int .i64 tx) ∧ W.cell? ⟨p, 6, none⟩ = some (.int .i64 sh) ∧ W.cell? ⟨p, 7, none⟩ = some (.slice B n d) ∧ W.cell? ⟨p, 8, none⟩ = some (.int .i64 net) ∧ W.cell? ⟨p, 9, none⟩ = some (.int .i64 tk) ∧ W.cell? ⟨p, 10, none⟩ = some (.int .i64 py))) := fun W hW => ⟨hW, ((HF3.out.ca hW).b 0 rfl).cv 0 _ rfl, ((HF3.out.ca hW).b 0 rfl).cv 1 _ rfl, ((HF3.out.ca hW).b 0 rfl).cv 2 _ rfl, ((HF3.out.ca hW).b 0 rfl).cv 3 _ rfl, ((HF3.out.ca hW).b 0 rfl).cv 4 _ rfl, ((HF3.out.ca hW).b 0 rfl).cv 5 _ rfl, ((HF3.out.ca hW).b 0 rfl).cv 6 _ rfl, ((HF3.out.ca hW).b 0 rfl).cv 7 _ rfl, ((HF3.out.ca hW).b 0 rfl).cv 8 _ rfl, ((HF3.out.ca hW).b 0 rfl).cv 9 _ rfl, (HY.out.t (HF3.out.ca hW).bl).cv 2 _ rfl, (HY.out.t (HF3.out.ca hW).bl).cv 3 _ rfl, (HY.out.t (HF3.out.ca hW).bl).cv 4 _ rfl, (HY.out.t (HF3.out.ca hW).bl).cv 5 _ rfl, (HY.out.t (HF3.out.ca hW).bl).cv 6 _ rfl, (HY.out.t (HF3.out.ca hW).bl).cv 7 _ rfl, (HY.out.t (HF3.out.ca hW).bl).cv 8 _ rfl, (HY.out.t (HF3.out.ca hW).bl).cv 9 _ rfl, (HY.out.t (HF3.out.ca hW).bl).cv 10 _ rfl⟩
 go_cut [7, 8] (fun x y0 wx => ∃ (g : Nat) (vc vt vs vtx vsh : Int) (vrows : List Sh) (vnet vtk vpy : Int) (A7 : Option Addr) (n7 c7 : Nat), x = .pointer (some ⟨g, 0, none⟩) ∧ y0 = .int .i64 E3 ∧ Hid (Fr w wx [(w.heap.size, 45, #[.int .i64 sp, .int .i64 sc, .int .i64 st, .int .i64 ss, .int .i64 stx, .int .i64 ssh, .slice A2 n2 c2, .int .i64 snet, .slice B2 m2 d2, .int .i64 spy]), (w.heap.size + 1, 82, #[.int .i64 0, .int .i64 0, .int .i64 0, .int .i64 0, .int .i64 0, .slice none 0 0, .int .i64 0, .int .i64 0, .int .i64 0]), (g, 82, #[.int .i64 vc, .int .i64 vt, .int .i64 vs, .int .i64 vtx, .int .i64 vsh, .slice A7 n7 c7, .int .i64 vnet, .int .i64 vtk, .int .i64 vpy])]) ∧ Hid (E3 = 0 → To.mk (Bs.mk vc vt vs) vtx vsh vrows vnet vtk vpy = V ∧ n7 = V.rows.length ∧ (wx).ownsRow w.heap.size 79 2 (.slice A7 n7 c7) n7 (V.rows.flatMap shC)))
 case first =>
  have yal := trivial
  have HSX := hid (b0 v2)
  have HBB := b0 v2
  go_region_held3 (fun W => Below v2.heap.size v2 W ∧ (W.cell? ⟨w.heap.size, 0, none⟩ = some (.int .i64 sp) ∧ W.cell? ⟨w.heap.size, 1, none⟩ = some (.int .i64 sc) ∧ W.cell? ⟨w.heap.size, 2, none⟩ = some (.int .i64 st) ∧ W.cell? ⟨w.heap.size, 3, none⟩ = some (.int .i64 ss) ∧ W.cell? ⟨w.heap.size, 4, none⟩ = some (.int .i64 stx) ∧ W.cell? ⟨w.heap.size, 5, none⟩ = some (.int .i64 ssh) ∧ W.cell? ⟨w.heap.size, 6, none⟩ = some (.slice A2 n2 c2) ∧ W.cell? ⟨w.heap.size, 7, none⟩ = some (.int .i64 snet) ∧ W.cell? ⟨w.heap.size, 8, none⟩ = some (.slice B2 m2 d2) ∧ W.cell? ⟨w.heap.size, 9, none⟩ = some (.int .i64 spy) ∧ W.cell? ⟨p, 2, none⟩ = some (.int .i64 bc) ∧ W.cell? ⟨p, 3, none⟩ = some (.int .i64 bt) ∧ W.cell? ⟨p, 4, none⟩ = some (.int .i64 bs) ∧ W.cell? ⟨p, 5, none⟩ = some (.int .i64 tx) ∧ W.cell? ⟨p, 6, none⟩ = some (.int .i64 sh) ∧ W.cell? ⟨p, 7, none⟩ = some (.slice B n d) ∧ W.cell? ⟨p, 8, none⟩ = some (.int .i64 net) ∧ W.cell? ⟨p, 9, none⟩ = some (.int .i64 tk) ∧ W.cell? ⟨p, 10, none⟩ = some (.int .i64 py)))
   (with_reducible (first | assumption | exact G.out _ HSX.out | exact G.out _ HBB | exact G.out _ (bA HBB _) | exact G.out _ (b0 _).drew | exact G.out _ (bA (b0 _) _).drew | exact sK G.out (by assumption) (by assumption) | exact sK G.out (by assumption) (bz1 _ _)))
   ((go_at_call 90; (with_reducible refine (KK.out _ (show Below v2.heap.size v2 _ ∧ _ from by assumption).1).mono ?_); rintro e W2 ⟨⟨⟨⟨vc, vt, vs⟩, vtx, vsh, vrows, vnet, vtk, vpy⟩, A7, n7, c7, rfl, hq⟩, hb⟩; (first | (have yal := alcd hb (Nat.le_refl v2.heap.size)) | (have yal := alca hb (Nat.le_refl v2.heap.size)) | skip); have HBB := bT (show Below v2.heap.size v2 _ ∧ _ from by assumption).1 hb; (first | (obtain ⟨yy, hge⟩ := yal; have HSX : Hid (Below v2.heap.size v2 ((((((((((W2).setCell ⟨v2.heap.size, 0, none⟩ (.int .i64 vc)).setCell ⟨v2.heap.size, 1, none⟩ (.int .i64 vt)).setCell ⟨v2.heap.size, 2, none⟩ (.int .i64 vs)).setCell ⟨v2.heap.size, 3, none⟩ (.int .i64 vtx)).setCell ⟨v2.heap.size, 4, none⟩ (.int .i64 vsh)).setCell ⟨v2.heap.size, 5, none⟩ (.slice A7 n7 c7)).setCell ⟨v2.heap.size, 6, none⟩ (.int .i64 vnet)).setCell ⟨v2.heap.size, 7, none⟩ (.int .i64 vtk)).setCell ⟨v2.heap.size, 8, none⟩ (.int .i64 vpy))) := below_put9 HBB hge (.int .i64 vc) (.int .i64 vt) (.int .i64 vs) (.int .i64 vtx) (.int .i64 vsh) (.slice A7 n7 c7) (.int .i64 vnet) (.int .i64 vtk) (.int .i64 vpy); obtain ⟨mk0, mk1, mk2, mk3, mk4, mk5, mk6, mk7, mk8, mf0, mf1, mf2, mf3, mf4, mf5, mf6, mf7, mf8⟩ := yy.af9) | skip)))
  ·
   go_wp2_with fail
   go_meet
   refine ⟨_, vc, vt, vs, vtx, vsh, vrows, vnet, vtk, vpy, A7, n7, c7, rfl, rfl, hid ((HF3.out.dr.ca hb).al 82 #[.int .i64 vc, .int .i64 vt, .int .i64 vs, .int .i64 vtx, .int .i64 vsh, .slice A7 n7 c7, .int .i64 vnet, .int .i64 vtk, .int .i64 vpy]), hid ?_⟩
   exact fun h => ⟨(hq h).1, (hq h).2.1, (oM9 (hq h).2.2 (Nat.le_trans HSZ.out (by simp))).alloc _⟩
  ·
   go_wp2_with fail
   go_meet
   refine ⟨_, vc, vt, vs, vtx, vsh, vrows, vnet, vtk, vpy, A7, n7, c7, rfl, rfl, hid (((HF3.out.al 82 #[.int .i64 0, .int .i64 0, .int .i64 0, .int .i64 0, .int .i64 0, .slice none 0 0, .int .i64 0, .int .i64 0, .int .i64 0]).dr.ca hb).put9 2 rfl (.int .i64 vc) (.int .i64 vt) (.int .i64 vs) (.int .i64 vtx) (.int .i64 vsh) (.slice A7 n7 c7) (.int .i64 vnet) (.int .i64 vtk) (.int .i64 vpy)), hid ?_⟩
   exact fun h => ⟨(hq h).1, (hq h).2.1, own_put9 (oM9 (hq h).2.2 (Nat.le_trans HSZ.out (by simp))) yy (by decide) (.int .i64 vc) (.int .i64 vt) (.int .i64 vs) (.int .i64 vtx) (.int .i64 vsh) (.slice A7 n7 c7) (.int .i64 vnet) (.int .i64 vtk) (.int .i64 vpy)⟩
 case rest =>
  obtain ⟨g2, vc, vt, vs, vtx, vsh, vrows, vnet, vtk, vpy, A7, n7, c7, rfl, rfl, HFc, HQ2⟩ := hcut
  clear KK HSZ
  have HF4 := HFc
  clear HFc
  obtain ⟨c2_0, c2_1, c2_2, c2_3, c2_4, c2_5, c2_6, c2_7, c2_8⟩ := (HF4.out.b 2 rfl).q9
  obtain ⟨c1_0, c1_1, c1_2, c1_3, c1_4, c1_5, c1_6, c1_7, c1_8⟩ := (HF4.out.b 1 rfl).q9
  obtain ⟨f1_0, f1_1, f1_2, f1_3, f1_4, f1_5, f1_6, f1_7, f1_8⟩ := (HF4.out.b 1 rfl).r9
  by_cases h0 : E3 = 0
  case neg =>
   have tr : (E3 != 0) = true := by simpa using h0
   have HE : Hid (re = E3) := H3.out
   have HN0 : Hid (re ≠ 0) := by unfold Hid; rw [HE.out]; exact h0
   clear h0
   obtain ⟨c1_0_4, c1_1_4, c1_2_4, c1_3_4, c1_4_4, c1_5_4, c1_6_4, c1_7_4, c1_8_4⟩ := (HF4.out.b 1 rfl).q9
   obtain ⟨f1_0_4, f1_1_4, f1_2_4, f1_3_4, f1_4_4, f1_5_4, f1_6_4, f1_7_4, f1_8_4⟩ := (HF4.out.b 1 rfl).r9
   go_wp2_with fail
   refine bodyPost_ret (v := .tuple #[.agg #[.int .i64 0, .int .i64 0, .int .i64 0, .int .i64 0, .int .i64 0, .slice none 0 0, .int .i64 0, .int .i64 0, .int .i64 0], .int .i64 E3]) (by simp [results, results55, go_sem, c1_0, c1_1, c1_2, c1_3, c1_4, c1_5, c1_6, c1_7, c1_8, c1_0_4, c1_1_4, c1_2_4, c1_3_4, c1_4_4, c1_5_4, c1_6_4, c1_7_4, c1_8_4]) rfl ⟨⟨to0 0, none, 0, 0, by rw [HE.out]; rfl, fun h => absurd h HN0.out⟩, ?_⟩
   have hg := HF4.out.ge 1 rfl
   exact st9 HF4.out.bl hg (.int .i64 0) (.int .i64 0) (.int .i64 0) (.int .i64 0) (.int .i64 0) (.slice none 0 0) (.int .i64 0) (.int .i64 0) (.int .i64 0)
  have H4 : Hid (re = 0) := H3.out.trans h0
  subst h0
  obtain ⟨hV, hn7, ho⟩ := HQ2.out rfl
  have HV7 := hid hV
  have HN7 := hid hn7
  have HO7 := hid ho
  clear HQ2 hV hn7 ho
  go_wp2_with fail
  have hg := HF4.out.ge 1 rfl
  refine bodyPost_ret (v := .tuple #[.agg #[.int .i64 vc, .int .i64 vt, .int .i64 vs, .int .i64 vtx, .int .i64 vsh, .slice A7 n7 c7, .int .i64 vnet, .int .i64 vtk, .int .i64 vpy], .int .i64 0]) (by simp [results, results55, go_sem, c1_0, c1_1, c1_2, c1_3, c1_4, c1_5, c1_6, c1_7, c1_8]) rfl ⟨⟨To.mk (Bs.mk vc vt vs) vtx vsh vrows vnet vtk vpy, A7, n7, c7, by rw [H4.out], fun _ => ⟨HV7.out, HN7.out, ?_⟩⟩, ?_⟩
  ·
   exact own_st9 HO7.out (HF4.out.b 1 rfl) (by decide) (.int .i64 vc) (.int .i64 vt) (.int .i64 vs) (.int .i64 vtx) (.int .i64 vsh) (.slice A7 n7 c7) (.int .i64 vnet) (.int .i64 vtk) (.int .i64 vpy)
  ·
   exact st9 HF4.out.bl hg (.int .i64 vc) (.int .i64 vt) (.int .i64 vs) (.int .i64 vtx) (.int .i64 vsh) (.slice A7 n7 c7) (.int .i64 vnet) (.int .i64 vtk) (.int .i64 vpy)
def mtB (T : TypeId) : Bool := T == 109 || T == 111 || T == 143 || T == 55
def Ty (X : Nat → Prop) (w : World) : Prop := ∀ g, X g → g < w.heap.size → ∃ T cs, Blk w g T cs ∧ mtB T = true
section
variable {X : Nat → Prop} {w w' : World} {base : Nat}
theorem own_fx {size n : Nat} {e : TypeId} {v : Value} {xs : List Value} (h : w.ownsRow base e size v n xs) (ty : Ty X w) (hk : Kp w.heap.size X w w') (he : mtB e = false) : w'.ownsRow base e size v n xs :=
 own_kp h hk fun g hg => ⟨(h.lt g hg).2, fun hX => by
  obtain ⟨T, cs, hb, hm⟩ := ty g hX (h.lt g hg).2
  exact obz h hb (fun hE => by subst hE; rw [he] at hm; cases hm) hg.symm⟩
theorem Ty.below (h : Ty X w) (hb : Below w.heap.size w w') (hX : ∀ g, X g → g < w.heap.size) : Ty X w' := fun g hg _ => by
 obtain ⟨T, cs, h1, h2⟩ := h g hg (hX g hg)
 exact ⟨T, cs, h1.t hb, h2⟩
theorem Blk.fx {g : Nat} {t : TypeId} {cs : Array Value} (h : Blk w g t cs) (ty : Ty X w) (hk : Kp w.heap.size X w w') (ht : mtB t = false) : Blk w' g t cs :=
 h.kp hk h.lt fun hX => by
  obtain ⟨T, cs', hb, hm⟩ := ty g hX h.lt
  exact Blk.differ h hb (fun hE => by subst hE; rw [ht] at hm; cases hm) rfl
theorem OwnB.fx {v : Value} {n : Nat} {l : List Bd} (h : OwnB w base v n l) (ty : Ty X w) (hk : Kp w.heap.size X w w') : OwnB w' base v n l := ⟨h.1, own_fx h.2 ty hk (by decide)⟩
theorem OwnT.fx {sch : List (List Bd)} {cts : List Ct} {kds : List Kd} {As Ac Ak : Option Addr} {ns cs nc cc nk ck : Nat} (h : OwnT w base sch cts kds As Ac Ak ns cs nc cc nk ck) (ty : Ty X w) (hk : Kp w.heap.size X w w') : OwnT w' base sch cts kds As Ac Ak ns cs nc cc nk ck := by
 obtain ⟨⟨ls, e1, o1, b1⟩, ⟨lc, e2, o2, b2⟩, o3, b3⟩ := h
 exact ⟨⟨ls, e1, own_fx o1 ty hk (by decide), fun p hp => (b1 p hp).fx ty hk⟩, ⟨lc, e2, own_fx o2 ty hk (by decide), fun p hp => ⟨(b2 p hp).1.fx ty hk, (b2 p hp).2⟩⟩, own_fx o3 ty hk (by decide), b3⟩
theorem SpOwn.fx {q : SpP} (h : SpOwn w base q) (ty : Ty X w) (hk : Kp w.heap.size X w w') : SpOwn w' base q := ⟨own_fx h.rows ty hk (by decide), own_fx h.tk ty hk (by decide)⟩
theorem Soz.fx {A : Option Addr} {n c : Nat} {l : List Sp} (h : Soz w base A n c l) (ty : Ty X w) (hk : Kp w.heap.size X w w') : Soz w' base A n c l := by
 obtain ⟨L, h1, h2, h3, h4⟩ := h.ex
 exact ⟨L, h1, h2, own_fx h3 ty hk (by decide), fun q hq => (h4 q hq).fx ty hk⟩
theorem Ya9.fx {p : Nat} {Y : Yr} {A : Option Addr} {c : Nat} {B : Option Addr} {d : Nat} (h : Ya9 w base p Y A c B d) (ty : Ty X w) (hk : Kp w.heap.size X w w') (hp : ¬ X p) : Ya9 w' base p Y A c B d :=
 ⟨h.blk.kp hk h.blk.lt hp, h.sl.fx ty hk, own_fx h.rows ty hk (by decide)⟩
theorem Bk.fx {p : Nat} {l : List Od} (h : Bk w p l) (ty : Ty X w) (hk : Kp w.heap.size X w w') (hp : ¬ X p) : Bk w' p l := by
 obtain ⟨v, h1, h2⟩ := h
 exact ⟨v, h1.kp hk h1.lt hp, h2.1, own_fx h2.2 ty hk (by decide)⟩
theorem YrAt.fx {g : Nat} {f d : Int} (h : YrAt w g f d) (ty : Ty X w) (hk : Kp w.heap.size X w w') : YrAt w' g f d := by
 obtain ⟨a, b, c, d, e, x, y, h⟩ := h
 exact ⟨a, b, c, d, e, x, y, h.fx ty hk (by decide)⟩
end
structure InP where
 z : In
 A : Option Addr
 n : Nat
 k : Nat
def inp0 : InP := ⟨in0, none, 0, 0⟩
def inPC (q : InP) : List Value := [.int .i64 q.z.c.s, .int .i64 q.z.c.k, .int .i64 q.z.c.a, .int .i64 q.z.c.f, .bool q.z.c.al, .slice q.A q.n q.k]
theorem ilz (q : InP) : (inPC q).length = 6 := rfl
structure Inz (w : World) (A : Option Addr) (n : Nat) (l : List In) : Prop where
 ex : ∃ L : List InP, L.map InP.z = l ∧ Rlz inPC 6 inp0 w A n L ∧ ∀ q ∈ L, ElSl w q.A q.n q.z.l
structure Iw9 (w : World) (lo base : Nat) (A : Option Addr) (n c : Nat) (l : List In) : Prop where
 ex : ∃ L : List InP, L.map InP.z = l ∧ n = L.length ∧ w.ownsRow base 67 6 (.slice A n c) n (L.flatMap inPC) ∧ ∀ q ∈ L, q.n = q.z.l.length ∧ w.ownsRow lo 98 3 (.slice q.A q.n q.k) q.n (q.z.l.flatMap elC)
section
variable {w w' : World} {lo base : Nat} {A : Option Addr} {n c : Nat} {l : List In}
theorem Inz.below (h : Inz w A n l) (hb : Below w.heap.size w w') : Inz w' A n l := by
 obtain ⟨L, h1, h2, h3⟩ := h.ex
 exact ⟨L, h1, h2.below hb, fun q hq => (h3 q hq).below hb⟩
theorem Inz.len (h : Inz w A n l) : n = l.length := by
 obtain ⟨L, h1, h2, h3⟩ := h.ex
 rw [h2.1, ← h1, List.length_map]
theorem Iw9.len (h : Iw9 w lo base A n c l) : n = l.length := by
 obtain ⟨L, h1, h2, _⟩ := h.ex
 rw [h2, ← h1, List.length_map]
theorem Iw9.below (h : Iw9 w lo base A n c l) (hb : Below w.heap.size w w') : Iw9 w' lo base A n c l := by
 obtain ⟨L, h1, h2, h3, h4⟩ := h.ex
 exact ⟨L, h1, h2, oB9 h3 hb, fun q hq => ⟨(h4 q hq).1, oB9 (h4 q hq).2 hb⟩⟩
theorem Iw9.fx {X : Nat → Prop} (h : Iw9 w lo base A n c l) (ty : Ty X w) (hk : Kp w.heap.size X w w') : Iw9 w' lo base A n c l := by
 obtain ⟨L, h1, h2, h3, h4⟩ := h.ex
 exact ⟨L, h1, h2, own_fx h3 ty hk (by decide), fun q hq => ⟨(h4 q hq).1, own_fx (h4 q hq).2 ty hk (by decide)⟩⟩
theorem Iw9.more {lo' base' : Nat} (h : Iw9 w lo base A n c l) (hl : lo' ≤ lo) (hb : base' ≤ base) : Iw9 w lo' base' A n c l := by
 obtain ⟨L, h1, h2, h3, h4⟩ := h.ex
 exact ⟨L, h1, h2, oM9 h3 hb, fun q hq => ⟨(h4 q hq).1, oM9 (h4 q hq).2 hl⟩⟩
theorem el_row {lo : Nat} {A : Option Addr} {n c : Nat} {L : List El} (h : w.ownsRow lo 98 3 (.slice A n c) n (L.flatMap elC)) (hn : n = L.length) : ElSl w A n L := by
 obtain ⟨A', c', he, _, hs⟩ := own_sl elC 3 el0 elC_len h hn (by decide)
 injection he with h1 _ h3
 subst h1
 exact hs
theorem Iw9.view (h : Iw9 w lo base A n c l) : Inz w A n l := by
 obtain ⟨L, h1, h2, h3, h4⟩ := h.ex
 obtain ⟨A', c', he, _, hs⟩ := own_sl inPC 6 inp0 ilz h3 h2 (by decide)
 injection he with e1 _ e3
 subst e1
 exact ⟨L, h1, hs, fun q hq => el_row (h4 q hq).2 (h4 q hq).1⟩
theorem Iw9.nil (w : World) (lo base : Nat) : Iw9 w lo base none 0 0 [] := ⟨[], rfl, rfl, World.ownsRow_nil _ _ _ _, fun q hq => by cases hq⟩
end
structure EmC where
 As : Option Addr
 cs : Nat
 Ac : Option Addr
 cc : Nat
 Ak : Option Addr
 ck : Nat
 gy : Nat
 An : Option Addr
 cn : Nat
 Ai : Option Addr
 ci : Nat
def emC (E : Em) (K : EmC) (y o : Nat) : Array Value :=
 #[.slice K.As E.tb.sch.length K.cs, .slice K.Ac E.tb.cts.length K.cc, .slice K.Ak E.tb.kds.length K.ck, .int .i64 E.tb.lim, .int .i64 E.tb.rnd, .pointer (some ⟨K.gy, 0, none⟩),
  .int .i64 E.c.s, .int .i64 E.c.k, .int .i64 E.c.a, .int .i64 E.c.f, .bool E.c.al, .int .i64 E.prot, .slice K.An E.next.length K.cn, .slice K.Ai E.ins.length K.ci, .pointer (some ⟨y, 0, none⟩), .pointer (some ⟨o, 0, none⟩)]
structure EmRows (w : World) (lo li : Nat) (fq days : Int) (E : Em) (K : EmC) (y o : Nat) : Prop where
 tb : OwnT w lo E.tb.sch E.tb.cts E.tb.kds K.As K.Ac K.Ak E.tb.sch.length K.cs E.tb.cts.length K.cc E.tb.kds.length K.ck
 gy : YrAt w K.gy fq days
 nx : w.ownsRow lo 98 3 (.slice K.An E.next.length K.cn) E.next.length (E.next.flatMap elC)
 ins : Iw9 w lo li K.Ai E.ins.length K.ci E.ins
 yr : ∃ A c B d, Ya9 w lo y E.yr A c B d
 bk : Bk w o E.bk
structure Ea9 (w : World) (lo li : Nat) (fq days : Int) (p y o : Nat) (E : Em) : Prop where
 ex : ∃ K, Blk w p 109 (emC E K y o) ∧ EmRows w lo li fq days E K y o
 lp : lo ≤ p
 ly : lo ≤ y
 lo' : lo ≤ o
 li' : lo ≤ li
def fx3 (p y o : Nat) : Nat → Prop := fun g => g = p ∨ g = y ∨ g = o
section
variable {w w' : World} {lo li : Nat} {fq days : Int} {p y o : Nat} {E : Em} {K : EmC}
theorem EmRows.below (h : EmRows w lo li fq days E K y o) (hb : Below w.heap.size w w') : EmRows w' lo li fq days E K y o := by
 obtain ⟨A, c, B, d, hy⟩ := h.yr
 exact ⟨h.tb.below hb, h.gy.t hb, oB9 h.nx hb, h.ins.below hb, ⟨A, c, B, d, hy.below hb⟩, h.bk.t hb⟩
theorem Ea9.below (h : Ea9 w lo li fq days p y o E) (hb : Below w.heap.size w w') : Ea9 w' lo li fq days p y o E := by
 obtain ⟨K, h1, h2⟩ := h.ex
 exact ⟨⟨K, h1.t hb, h2.below hb⟩, h.lp, h.ly, h.lo', h.li'⟩
theorem EmRows.fx {X : Nat → Prop} (h : EmRows w lo li fq days E K y o) (ty : Ty X w) (hk : Kp w.heap.size X w w') (hy : ¬ X y) (ho : ¬ X o) : EmRows w' lo li fq days E K y o := by
 obtain ⟨A, c, B, d, h5⟩ := h.yr
 exact ⟨h.tb.fx ty hk, h.gy.fx ty hk, own_fx h.nx ty hk (by decide), h.ins.fx ty hk, ⟨A, c, B, d, h5.fx ty hk hy⟩, h.bk.fx ty hk ho⟩
theorem Ea9.fx {X : Nat → Prop} (h : Ea9 w lo li fq days p y o E) (ty : Ty X w) (hk : Kp w.heap.size X w w') (hp : ¬ X p) (hy : ¬ X y) (ho : ¬ X o) : Ea9 w' lo li fq days p y o E := by
 obtain ⟨K, h1, h2⟩ := h.ex
 exact ⟨⟨K, h1.kp hk h1.lt hp, h2.fx ty hk hy ho⟩, h.lp, h.ly, h.lo', h.li'⟩
theorem Ya9.lt {base : Nat} {Y : Yr} {A : Option Addr} {c : Nat} {B : Option Addr} {d : Nat} (h : Ya9 w base p Y A c B d) : p < w.heap.size := h.blk.lt
theorem Ea9.lt (h : Ea9 w lo li fq days p y o E) : p < w.heap.size ∧ y < w.heap.size ∧ o < w.heap.size := by
 obtain ⟨K, h1, h2⟩ := h.ex
 obtain ⟨A, c, B, d, h5⟩ := h2.yr
 exact ⟨h1.lt, h5.lt, h2.bk.lt⟩
theorem Ea9.ty (h : Ea9 w lo li fq days p y o E) : Ty (fx3 p y o) w := by
 obtain ⟨K, h1, h2⟩ := h.ex
 obtain ⟨A, c, B, d, h5⟩ := h2.yr
 obtain ⟨v, h6, _⟩ := h2.bk
 rintro g (rfl | rfl | rfl) _
 ·
  exact ⟨_, _, h1, by decide⟩
 ·
  exact ⟨_, _, h5.blk, by decide⟩
 ·
  exact ⟨_, _, h6, by decide⟩
theorem Ty.one {T : TypeId} {cs : Array Value} (h : Blk w p T cs) (ht : mtB T = true) : Ty (fun g => g = p) w := fun g hg _ => by subst hg; exact ⟨T, cs, h, ht⟩
theorem Ea9.diff (h : Ea9 w lo li fq days p y o E) : p ≠ y ∧ p ≠ o ∧ y ≠ o := by
 obtain ⟨K, h1, h2⟩ := h.ex
 obtain ⟨A, c, B, d, h5⟩ := h2.yr
 obtain ⟨v, h6, _⟩ := h2.bk
 exact ⟨Blk.differ h1 h5.blk (by decide), Blk.differ h1 h6 (by decide), Blk.differ h5.blk h6 (by decide)⟩
end
end Go.Proofs.YtiaabmhjkoohmaaGreat
