/-
  Contracts of package hold: Limit, Part, Step, Due, Year. Conditions as named.
-/
import Derived.Test.YtankoappneglcaaHoldP
import Derived.Test.YtankoappneglcaaTable5
import Derived.Test.YtankoappneglcaaCode2
import Derived.Test.YtankoappneglcaaI64
import Derived.Test.YtankoappneglcaaYearB
import Derived.Test.YtankoappneglcaaSet
import Derived.Lib.MinMax
import Derived.Deep.RegionLaw
import Derived.BigRegion
namespace Go.Proofs.Ytankoappneglcaa
set_option linter.unusedVariables false
open Go.RowKit
theorem right4 (b off c : Nat) (x y z u : Int) (w : World) (h0 : w.cell? ⟨b, off, none⟩ = some (.int .i64 x)) (h1 : w.cell? ⟨b, off + 1, none⟩ = some (.int .i64 y)) (h2 : w.cell? ⟨b, off + 2, none⟩ = some (.int .i64 z)) (h3 : w.cell? ⟨b, off + 3, none⟩ = some (.int .i64 u)) :
    Calls Try.prog 44 #[.slice (some ⟨b, off, none⟩) 4 c] w fun e w' => e = .returned (.bool (mrB x && (mrB y && (mrB z && mrB u)))) ∧ w = w' := by
  refine (right_any b off c 4 [x, y, z, u] w rfl (by decide) (fun k hk => ?_)).mono fun e w' ⟨he, hw⟩ => ⟨he.trans (by simp), hw⟩
  rcases (by omega : k = 0 ∨ k = 1 ∨ k = 2 ∨ k = 3) with rfl | rfl | rfl | rfl
  · exact h0
  · exact h1
  · exact h2
  · exact h3
--%%
theorem hlimit_c (As Ac Ak : Option Addr) (ns cs nc cc nk ck : Nat) (lim rnd cash : Int) (w : World) (hc : cash ≤ 100000000000) (hl : 0 ≤ lim ∧ lim ≤ 10000) :
    Calls Try.prog 4 #[.agg #[.slice As ns cs, .slice Ac nc cc, .slice Ak nk ck, .int .i64 lim, .int .i64 rnd], .int .i64 cash] w fun e w' => e = .returned (.tuple #[.int .i64 (limI lim cash), .int .i64 0]) ∧ Below w.heap.size w w' := by
  have hb0 := below1 w (.cells #[.slice As ns cs, .slice Ac nc cc, .slice Ak nk ck, .int .i64 lim, .int .i64 rnd] 26)
  have K1 := Lib.hid (take_t (max 0 cash) lim 1 · (mr_t (by omega)) (rateB_iff.2 hl) (by decide))
  rw [round_down, show max 0 cash * lim / 10000 = limI lim cash from rfl] at K1
  generalize limI lim cash = lv at *
  obtain ⟨l0, l1⟩ := hl
  go_enter Try.func4, Try.ntmps4
  go_wp2_with fail
  refine (K1.out _).mono ?_
  rintro e w1 ⟨rfl, hb1⟩
  go_wp2_with fail
  go_ret2
  exact ⟨rfl, bT hb0 hb1⟩
--%%
theorem hpart_c (need limit : Int) (back : Bool) (w : World) : Calls Try.prog 49 #[.int .i64 need, .int .i64 limit, .bool back] w fun e w' => e = .returned (.int .i64 (partI need limit back)) ∧ w = w' := by
  obtain ⟨r, hr⟩ : ∃ r, r = partI need limit back := ⟨_, rfl⟩
  rw [← hr]
  unfold partI at hr
  cases back with
  | true =>
    rw [if_pos rfl] at hr
    have HR := Lib.hid hr
    clear hr
    go_enter Try.func49, Try.ntmps49
    go_wp2_with fail
    go_ret
    exact ⟨ret_int HR.out.symm, rfl⟩
  | false =>
    rw [if_neg (by decide)] at hr
    have HR := Lib.hid hr
    clear hr
    go_enter Try.func49, Try.ntmps49
    go_wp2_with fail
    go_ret
    exact ⟨ret_int HR.out.symm, rfl⟩
--%%
theorem hdue_c (a b : Int) (w : World) (h : -9223372036854775808 ≤ a + b ∧ a + b ≤ 9223372036854775807) : Calls Try.prog 11 #[.agg #[.int .i64 a, .int .i64 b]] w fun e w' => e = .returned (.int .i64 (a + b)) ∧ Below w.heap.size w w' := by
  obtain ⟨h1, h2⟩ := h
  go_enter Try.func11, Try.ntmps11
  go_wp2_with fail
  go_ret
  exact ⟨rfl, below1 _ _⟩
--%%
theorem Blk.a2f {w : World} {g : Nat} {t : TypeId} {a b : Value} (h : Blk w g t #[a, b]) : (w.cell? ⟨g, 0, none⟩ = some a ∧ w.cell? ⟨g, 1, none⟩ = some b) ∧ (w.frozen? ⟨g, 0, none⟩ = false ∧ w.frozen? ⟨g, 1, none⟩ = false) := ⟨⟨h.cell 0, h.cell 1⟩, h.free 0, h.free 1⟩
set_option maxRecDepth 100000 in
set_option maxHeartbeats 3200000 in
theorem hstep_t (As Ac Ak : Option Addr) (ns cs nc cc nk ck : Nat) (lim rnd a b cash due : Int) (back : Bool) (w : World) (hl : 0 ≤ lim ∧ lim ≤ 10000) (hz : HsOK ⟨a, b⟩) (hp : PyOK ⟨cash, due, back⟩) :
    Calls Try.prog 27 #[.agg #[.slice As ns cs, .slice Ac nc cc, .slice Ak nk ck, .int .i64 lim, .int .i64 rnd], .agg #[.int .i64 a, .int .i64 b], .int .i64 cash, .int .i64 due, .bool back] w fun e w' =>
      e = .returned (.tuple #[.int .i64 (heldI lim ⟨a, b⟩ ⟨cash, due, back⟩), .agg #[.int .i64 (stepH lim ⟨a, b⟩ ⟨cash, due, back⟩).w, .int .i64 (stepH lim ⟨a, b⟩ ⟨cash, due, back⟩).s], .int .i64 0]) ∧ Below w.heap.size w w' := by
  have sb := step_bd hl hz hp
  obtain ⟨⟨l0, l1⟩, ⟨n0, n1⟩, ⟨h0, h1⟩, hok⟩ := sb
  have ⟨ow, os⟩ := hok
  have hw := hz.w
  have hs := hz.s
  have hc := hp.c
  have hd := hp.d
  dsimp only at hw hs hc hd l0 l1 n0 n1
  have e1 : (stepH lim ⟨a, b⟩ ⟨cash, due, back⟩).w = a + heldI lim ⟨a, b⟩ ⟨cash, due, back⟩ := rfl
  have e2 : (stepH lim ⟨a, b⟩ ⟨cash, due, back⟩).s = due - a - heldI lim ⟨a, b⟩ ⟨cash, due, back⟩ := rfl
  rw [e1] at ow ⊢
  rw [e2] at os ⊢
  have KP : Hid (∀ W, Calls Try.prog 49 #[.int .i64 (due - a), .int .i64 (limI lim cash), .bool back] W fun e w' => e = .returned (.int .i64 (heldI lim ⟨a, b⟩ ⟨cash, due, back⟩)) ∧ W = w') := fun W => hpart_c (due - a) (limI lim cash) back W
  have KL := Lib.hid (hlimit_c As Ac Ak ns cs nc cc nk ck lim rnd cash · hc.2 hl)
  clear e1 e2 hok
  generalize heldI lim ⟨a, b⟩ ⟨cash, due, back⟩ = hv at *
  generalize limI lim cash = lv at *
  obtain ⟨w0, w1'⟩ := hw
  obtain ⟨s0, s1⟩ := hs
  obtain ⟨c0, c1⟩ := hc
  obtain ⟨d0, d1⟩ := hd
  obtain ⟨ow0, ow1⟩ := ow
  obtain ⟨os0, os1⟩ := os
  have KS1 := Lib.hid (sub_t due a · (mr_t (by omega)) (mr_t (by omega)) (mr_t (by omega)))
  have KA := Lib.hid (add_t a hv · (mr_t (by omega)) (mr_t (by omega)) (mr_t (by omega)))
  have KS2 := Lib.hid (sub_t (due - a) hv · (mr_t (by omega)) (mr_t (by omega)) (mr_t (by omega)))
  have m1 : (mrB a && (mrB b && (mrB cash && mrB due))) = true := by rw [mr_t (by omega), mr_t (by omega), mr_t (by omega), mr_t (by omega)]; rfl
  have z := ((Blk.mk w 26 #[.slice As ns cs, .slice Ac nc cc, .slice Ak nk ck, .int .i64 lim, .int .i64 rnd]).alloc (.cells #[.int .i64 a, .int .i64 b] 50)).alloc (.cells #[.int .i64 0, .int .i64 0] 50)
  have y := (Blk.mk (w.alloc (.cells #[.slice As ns cs, .slice Ac nc cc, .slice Ak nk ck, .int .i64 lim, .int .i64 rnd] 26)) 50 #[.int .i64 a, .int .i64 b]).alloc (.cells #[.int .i64 0, .int .i64 0] 50)
  have x := Blk.mk ((w.alloc (.cells #[.slice As ns cs, .slice Ac nc cc, .slice Ak nk ck, .int .i64 lim, .int .i64 rnd] 26)).alloc (.cells #[.int .i64 a, .int .i64 b] 50)) 50 #[.int .i64 0, .int .i64 0]
  rw [World.size_alloc] at y
  rw [World.size_alloc, World.size_alloc] at x
  have hb1 := bA (bA (bA (below1 w (.cells #[.slice As ns cs, .slice Ac nc cc, .slice Ak nk ck, .int .i64 lim, .int .i64 rnd] 26)) (.cells #[.int .i64 a, .int .i64 b] 50)) (.cells #[.int .i64 0, .int .i64 0] 50)) (.cells #[.int .i64 a, .int .i64 b, .int .i64 cash, .int .i64 due] 2)
  have z1 := z.alloc (.cells #[.int .i64 a, .int .i64 b, .int .i64 cash, .int .i64 due] 2)
  have y1 := y.alloc (.cells #[.int .i64 a, .int .i64 b, .int .i64 cash, .int .i64 due] 2)
  have x1 := x.alloc (.cells #[.int .i64 a, .int .i64 b, .int .i64 cash, .int .i64 due] 2)
  have HB1 := Lib.hid hb1
  obtain ⟨p0, p1, p2, p3, p4⟩ := z1.all5
  clear hz hp hl hb1 z y x
  go_enter Try.func27, Try.ntmps27
  go_wp2_with fail
  refine (right4 _ _ _ a b cash due _ (by simp [cell_alloc]) (by simp [cell_alloc]) (by simp [cell_alloc]) (by simp [cell_alloc])).mono ?_
  rintro e w1 ⟨rfl, rfl⟩
  go_wp2_with fail
  refine (KL.out _).mono ?_
  rintro e w2 ⟨rfl, hb2⟩
  have y2 := y1.t hb2
  have x2 := x1.t hb2
  have HB2 := Lib.hid (bT HB1.out hb2)
  clear p0 p1 p2 p3 p4 hb2
  have q0 := y2.cell 0
  go_wp2_with fail
  refine (KS1.out _).mono ?_
  rintro e w3 ⟨rfl, hb3⟩
  have y3 := y2.t hb3
  have x3 := x2.t hb3
  have HB3 := Lib.hid (bT HB2.out hb3)
  clear q0 hb3
  go_wp2_with fail
  refine (KP.out _).mono ?_
  rintro e w4 ⟨rfl, rfl⟩
  have q0 := y3.cell 0
  go_wp2_with fail
  refine (KA.out _).mono ?_
  rintro e w4 ⟨rfl, hb4⟩
  have x4 := x3.t hb4
  have HB4 := Lib.hid (bT HB3.out hb4)
  clear q0 hb4
  go_wp2_with fail
  refine (KS2.out _).mono ?_
  rintro e w5 ⟨rfl, hb5⟩
  have x5 := x4.t hb5
  have HB5 := Lib.hid (bT HB4.out hb5)
  obtain ⟨⟨c0', c1'⟩, f0, f1⟩ := x5.a2f
  clear hb5
  go_wp2_with fail
  refine bodyPost_ret (v := .tuple #[.int .i64 hv, .agg #[.int .i64 (a + hv), .int .i64 (due - a - hv)], .int .i64 0]) (by simp [results, Try.results27, go_sem, c0', c1']) rfl ⟨rfl, ?_⟩
  exact bS (bS HB5.out (Nat.le_succ_of_le (Nat.le_succ _)) _) (Nat.le_succ_of_le (Nat.le_succ _)) _
--%%
def pyC (p : Py) : List Value := [.int .i64 p.c, .int .i64 p.d, .bool p.b]
theorem pyC_len (p : Py) : (pyC p).length = 3 := rfl
abbrev PySl := RowSl pyC 3 py0
def HYearR (lim : Int) (l : List Py) (n : Nat) (w : World) (e : Ending) (w' : World) : Prop :=
  (∃ v, e = .returned (.tuple #[v, .agg #[.int .i64 (stateA lim l n).w, .int .i64 (stateA lim l n).s], .int .i64 0]) ∧ OwnI w' w.heap.size v n (heldL lim l n)) ∧ Below w.heap.size w w'
set_option maxRecDepth 100000 in
set_option maxHeartbeats 6400000 in
theorem hyear_t (As Ac Ak A : Option Addr) (ns cs nc cc nk ck n c : Nat) (lim rnd : Int) (l : List Py) (w : World) (hl : 0 ≤ lim ∧ lim ≤ 10000) (hs : PySl w A n l) (hok : ∀ k, k < n → PyOK (l.getD k py0)) (hn : n ≤ 1000) :
    Calls Try.prog 10 #[.agg #[.slice As ns cs, .slice Ac nc cc, .slice Ak nk ck, .int .i64 lim, .int .i64 rnd], .slice A n c] w (HYearR lim l n w) := by
  have KS : Hid (∀ (a b cash due : Int) (back : Bool) (W : World), HsOK ⟨a, b⟩ → PyOK ⟨cash, due, back⟩ → Calls Try.prog 27 #[.agg #[.slice As ns cs, .slice Ac nc cc, .slice Ak nk ck, .int .i64 lim, .int .i64 rnd], .agg #[.int .i64 a, .int .i64 b], .int .i64 cash, .int .i64 due, .bool back] W fun e w' =>
      e = .returned (.tuple #[.int .i64 (heldI lim ⟨a, b⟩ ⟨cash, due, back⟩), .agg #[.int .i64 (stepH lim ⟨a, b⟩ ⟨cash, due, back⟩).w, .int .i64 (stepH lim ⟨a, b⟩ ⟨cash, due, back⟩).s], .int .i64 0]) ∧ Below W.heap.size W w') := fun a b cash due back W h1 h2 => hstep_t As Ac Ak ns cs nc cc nk ck lim rnd a b cash due back W hl h1 h2
  have HS := Lib.hid hs
  have HOK := Lib.hid hok
  have HST : Hid (∀ k, k ≤ n → HsOK (stateA lim l k)) := fun k hk => state_ok hl k (fun j hj => hok j (by omega))
  have x := (Blk.mk (w.alloc (.cells #[.slice As ns cs, .slice Ac nc cc, .slice Ak nk ck, .int .i64 lim, .int .i64 rnd] 26)) 50 #[.int .i64 0, .int .i64 0]).alloc (.cells #[.int .i64 0, .int .i64 0] 50)
  have y := Blk.mk ((w.alloc (.cells #[.slice As ns cs, .slice Ac nc cc, .slice Ak nk ck, .int .i64 lim, .int .i64 rnd] 26)).alloc (.cells #[.int .i64 0, .int .i64 0] 50)) 50 #[.int .i64 0, .int .i64 0]
  have z := ((Blk.mk w 26 #[.slice As ns cs, .slice Ac nc cc, .slice Ak nk ck, .int .i64 lim, .int .i64 rnd]).alloc (.cells #[.int .i64 0, .int .i64 0] 50)).alloc (.cells #[.int .i64 0, .int .i64 0] 50)
  rw [World.size_alloc] at x
  rw [World.size_alloc, World.size_alloc] at y
  have HX := Lib.hid x
  have HY := Lib.hid y
  have HZ := Lib.hid z
  have HB := Lib.hid (bA (bA (below1 w (.cells #[.slice As ns cs, .slice Ac nc cc, .slice Ak nk ck, .int .i64 lim, .int .i64 rnd] 26)) (.cells #[.int .i64 0, .int .i64 0] 50)) (.cells #[.int .i64 0, .int .i64 0] 50))
  clear hs hok x y z
  go_enter Try.func10, Try.ntmps10
  go_wp2_with fail
  go_loopw [8, 16] (fun cv ci wr => ∃ (k : Nat) (A1 : Option Addr) (c1 : Nat), k ≤ n ∧ ci = .int .i64 k ∧ cv = .slice A1 k c1 ∧ Hid (wr.ownsRow w.heap.size 2 1 (.slice A1 k c1) k ((heldL lim l k).map (.int .i64))) ∧ Hid (Blk wr (w.heap.size + 1 + 1) 50 #[.int .i64 (stateA lim l k).w, .int .i64 (stateA lim l k).s]) ∧ Hid (Blk wr (w.heap.size + 1) 50 #[.int .i64 0, .int .i64 0]) ∧ Hid (Blk wr w.heap.size 26 #[.slice As ns cs, .slice Ac nc cc, .slice Ak nk ck, .int .i64 lim, .int .i64 rnd]) ∧ Below w.heap.size w wr) (fun _ ci _ => n - (intOf ci).toNat)
  case atStart => exact ⟨0, none, 0, Nat.zero_le _, rfl, rfl, World.ownsRow_nil _ _ _ _, HY.out, HX.out, HZ.out, HB.out⟩
  case round =>
    obtain ⟨k, A1, c1, hk', rfl, rfl, HO, HYk, HXk, HZk, hbl⟩ := hrel
    by_cases hk : k < n
    case neg =>
      obtain rfl : k = n := by omega
      obtain ⟨⟨y0, y1⟩, _⟩ := HYk.out.a2f
      obtain ⟨⟨x0, x1⟩, f0, f1⟩ := HXk.out.a2f
      have HF : Hid (∀ W, OwnI W w.heap.size (.slice A1 k c1) k (heldL lim l k) → Below w.heap.size w W → HYearR lim l k w (.returned (.tuple #[.slice A1 k c1, .agg #[.int .i64 (stateA lim l k).w, .int .i64 (stateA lim l k).s], .int .i64 0])) W) := fun W h1 h2 => ⟨⟨_, rfl, h1⟩, h2⟩
      generalize (stateA lim l k).w = a at *
      generalize (stateA lim l k).s = b at *
      go_wp2_with fail
      go_region
      all_goals
        go_wp2_with fail
        refine bodyPost_ret (v := .tuple #[.slice A1 k c1, .agg #[.int .i64 a, .int .i64 b], .int .i64 0]) (by simp [results, Try.results10, go_sem, x0, x1, f0, f1]) rfl (HF.out _ ⟨by simp [heldL], ?_⟩ ?_)
        · exact own_set2 (own_drewN HO.out 1) (show Blk (wr.drewN 1) _ _ _ from HXk.out) (by decide) 0 1 _ _
        · exact bS2 (bD hbl 1) (Nat.le_succ _) 0 1 _ _
    obtain ⟨bq, oq, rfl, hltq, hatq⟩ := (HS.out.below hbl).2.2 (by omega)
    have hcl := hatq k hk
    have hpk := HOK.out k hk
    have hst := HST.out k (by omega)
    have HHL := Lib.hid (heldL_snoc lim l k)
    have HSA : Hid (stateA lim l (k + 1) = stepH lim (stateA lim l k) (l.getD k py0)) := rfl
    have HHA : Hid (heldA lim l k = heldI lim (stateA lim l k) (l.getD k py0)) := rfl
    generalize l.getD k py0 = pp at *
    generalize stateA lim l k = st at *
    obtain ⟨pc, pd, pb⟩ := pp
    obtain ⟨a, b⟩ := st
    obtain ⟨d0, d1, d2⟩ : wr.cell? ⟨bq, oq + k * 3, none⟩ = some (.int .i64 pc) ∧ wr.cell? ⟨bq, oq + k * 3 + 1, none⟩ = some (.int .i64 pd) ∧ wr.cell? ⟨bq, oq + k * 3 + 2, none⟩ = some (.bool pb) := ⟨hcl 0 _ rfl, hcl 1 _ rfl, hcl 2 _ rfl⟩
    have KS1 := Lib.hid (fun W => KS.out a b pc pd pb W hst hpk)
    generalize hst2 : stepH lim ⟨a, b⟩ ⟨pc, pd, pb⟩ = s2 at *
    generalize hhv : heldI lim ⟨a, b⟩ ⟨pc, pd, pb⟩ = hv at *
    obtain ⟨a2, b2⟩ := s2
    dsimp only at KS1 HYk
    have hb2 := bA hbl (.cells #[.int .i64 pc, .int .i64 pd, .bool pb] 48)
    have hsz := hbl.size
    have HB2 := Lib.hid hb2
    have HO2 := Lib.hid (HO.out.alloc (.cells #[.int .i64 pc, .int .i64 pd, .bool pb] 48))
    have HY2 := Lib.hid (HYk.out.alloc (.cells #[.int .i64 pc, .int .i64 pd, .bool pb] 48))
    have HX2 := Lib.hid (HXk.out.alloc (.cells #[.int .i64 pc, .int .i64 pd, .bool pb] 48))
    have HZ2 := Lib.hid (HZk.out.alloc (.cells #[.int .i64 pc, .int .i64 pd, .bool pb] 48))
    obtain ⟨y0, y1⟩ := HYk.out.a2f.1
    obtain ⟨z0, z1, z2, z3, z4⟩ := HZk.out.all5
    have yl := HYk.out.lt
    have zl := HZk.out.lt
    clear hcl hatq hpk hst hst2 hhv hbl hb2
    go_wp2_with fail
    refine (KS1.out _).mono ?_
    rintro e w3 ⟨rfl, hb3⟩
    have HB3 := Lib.hid (bT HB2.out hb3)
    have HO3 := Lib.hid (own_below HO2.out hb3)
    have HY3 := Lib.hid (HY2.out.t hb3)
    have HX3 := Lib.hid (HX2.out.t hb3)
    have HZ3 := Lib.hid (HZ2.out.t hb3)
    have hsz3 := HB3.out.size
    clear y0 y1 z0 z1 z2 z3 z4 d0 d1 d2 hb3 yl zl
    obtain ⟨v', w7, hr7, ho7, hg7⟩ := run_app1 (P := Try.prog) (w3.alloc (.cells #[.int .i64 a2, .int .i64 b2] 50)).drew 28 28 2 (.int .i64 0) 1 8 Try.underlying28 info_i64 rfl (by decide) (own_drewN (HO3.out.alloc (.cells #[.int .i64 a2, .int .i64 b2] 50)) 1) #[.int .i64 hv] rfl (by simp [Value.oneCell']) (by omega) (by omega) (by simp; omega)
    have HR7 := Lib.hid hr7
    have HO7 := Lib.hid ho7
    have HY7 := Lib.hid (Blk.grown (show Blk (w3.alloc (.cells #[.int .i64 a2, .int .i64 b2] 50)).drew _ _ _ from HY3.out.alloc (.cells #[.int .i64 a2, .int .i64 b2] 50)) hg7 (own_blk (own_drewN (HO3.out.alloc (.cells #[.int .i64 a2, .int .i64 b2] 50)) 1) (HY3.out.alloc (.cells #[.int .i64 a2, .int .i64 b2] 50)) (by decide)))
    have HX7 := Lib.hid (Blk.grown (show Blk (w3.alloc (.cells #[.int .i64 a2, .int .i64 b2] 50)).drew _ _ _ from HX3.out.alloc (.cells #[.int .i64 a2, .int .i64 b2] 50)) hg7 (own_blk (own_drewN (HO3.out.alloc (.cells #[.int .i64 a2, .int .i64 b2] 50)) 1) (HX3.out.alloc (.cells #[.int .i64 a2, .int .i64 b2] 50)) (by decide)))
    have HZ7 := Lib.hid (Blk.grown (show Blk (w3.alloc (.cells #[.int .i64 a2, .int .i64 b2] 50)).drew _ _ _ from HZ3.out.alloc (.cells #[.int .i64 a2, .int .i64 b2] 50)) hg7 (own_blk (own_drewN (HO3.out.alloc (.cells #[.int .i64 a2, .int .i64 b2] 50)) 1) (HZ3.out.alloc (.cells #[.int .i64 a2, .int .i64 b2] 50)) (by decide)))
    have HU7 := Lib.hid (Blk.grown (show Blk (w3.alloc (.cells #[.int .i64 a2, .int .i64 b2] 50)).drew _ _ _ from Blk.mk w3 50 #[.int .i64 a2, .int .i64 b2]) hg7 (own_blk (own_drewN (HO3.out.alloc (.cells #[.int .i64 a2, .int .i64 b2] 50)) 1) (Blk.mk w3 50 #[.int .i64 a2, .int .i64 b2]) (by decide)))
    have HB7 := Lib.hid (bP (bD (bA HB3.out (.cells #[.int .i64 a2, .int .i64 b2] 50)) 1) (own_drewN (HO3.out.alloc (.cells #[.int .i64 a2, .int .i64 b2] 50)) 1) hg7 (Nat.le_refl _))
    obtain ⟨A7, c7, rfl⟩ := own_slice ho7
    obtain ⟨⟨u0, u1⟩, _⟩ := HU7.out.a2f
    obtain ⟨⟨y0, y1⟩, y2, y3⟩ := HY7.out.a2f
    clear hr7 ho7 hg7
    go_wp2_with fail
    go_region_law (refine step_of_run rfl _ _ 28 rfl _ _ (by simp [Act.eval]) (by simp [Act.eval]) _ w7 HR7.out ?_)
    all_goals
      go_wp2_with fail
      go_roundw
      case rel => exact ⟨k + 1, A7, c7, by omega, by go_num, rfl, (by unfold Hid; rw [HHL.out, List.map_append, HHA.out]; exact own_set2 HO7.out HY7.out (by decide) 0 1 _ _), (by unfold Hid; rw [HSA.out]; exact HY7.out.set01 _ _), HX7.out.set2O (by omega) 0 1 _ _, HZ7.out.set2O (by omega) 0 1 _ _, bS2 HB7.out (by omega) 0 1 _ _⟩
      case measure => simp [intOf]; omega
--%%
end Go.Proofs.Ytankoappneglcaa
