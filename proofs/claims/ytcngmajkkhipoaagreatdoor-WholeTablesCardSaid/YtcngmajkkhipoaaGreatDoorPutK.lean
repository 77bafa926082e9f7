/-
  Contract of table.Put at 'kind', once more: schemes and contributions share no rows. Conditions as named.
-/
import Derived.Test.YtcngmajkkhipoaaGreatDoorClone2
import Derived.Test.YtcngmajkkhipoaaGreatDoorM3
namespace Go.Proofs.YtcngmajkkhipoaaGreatDoor
set_option linter.unusedVariables false
open Go.RowKit
section
variable {w w' : World} {base ns cs nc cc nk ck : Nat} {sch : List (List Bd)} {cts : List Ct} {kds : List Kd} {As Ac Ak : Option Addr}
theorem SepT.belowT (h : SepT w As Ac ns nc) (o : OwnT w base sch cts kds As Ac Ak ns cs nc cc nk ck) (hb : Below w.heap.size w w') : SepT w' As Ac ns nc := by
  obtain ⟨⟨ls, e1, o1, b1⟩, ⟨lc, e2, o2, b2⟩, o3, b3⟩ := o
  refine h.kept (fun gs i hA hi => hb.cell (p := ⟨gs, i, none⟩) ?_) (fun gs i hA hi => hb.cell (p := ⟨gs, i * 6 + 2, none⟩) ?_)
  · subst hA; exact (o1.lt gs rfl).2
  · subst hA; exact (o2.lt gs rfl).2
theorem SepT.varT (h : SepT w As Ac ns nc) (o : OwnT w base sch cts kds As Ac Ak ns cs nc cc nk ck) {g : Nat} {t : TypeId} {x : Array Value} (hk : Blk w g t x) (n1 : 42 ≠ t) (n2 : 46 ≠ t) (j : Nat) (u : Value) : SepT (w.setCell ⟨g, j, none⟩ u) As Ac ns nc := by
  obtain ⟨⟨ls, e1, o1, b1⟩, ⟨lc, e2, o2, b2⟩, o3, b3⟩ := o
  refine h.kept (fun gs i hA hi => ?_) (fun gs i hA hi => ?_)
  · subst hA
    have hne : gs ≠ g := fun he => own_blk o1 hk n1 (by rw [he]; rfl)
    exact World.cell?_of_block (heap_setCell_other w ⟨g, j, none⟩ gs u hne)
  · subst hA
    have hne : gs ≠ g := fun he => own_blk o2 hk n2 (by rw [he]; rfl)
    exact World.cell?_of_block (heap_setCell_other w ⟨g, j, none⟩ gs u hne)
theorem SepT.kindT (h : SepT w As Ac ns nc) (o : OwnT w base sch cts kds As Ac Ak ns cs nc cc nk ck) (hg : w.grownBy w' (Value.slice Ak nk ck).ownBlock) : SepT w' As Ac ns nc := by
  obtain ⟨⟨ls, e1, o1, b1⟩, ⟨lc, e2, o2, b2⟩, o3, b3⟩ := o
  refine h.kept (fun gs i hA hi => ?_) (fun gs i hA hi => ?_)
  · subst hA
    refine World.cell?_of_block (hg.block gs (o1.lt gs rfl).2 ?_)
    rcases own_own o1 o3 (by decide) with h0 | h0
    · cases h0
    · exact h0
  · subst hA
    refine World.cell?_of_block (hg.block gs (o2.lt gs rfl).2 ?_)
    rcases own_own o2 o3 (by decide) with h0 | h0
    · cases h0
    · exact h0
theorem SepT.five5 (h : SepT w As Ac ns nc) (o : OwnT w base sch cts kds As Ac Ak ns cs nc cc nk ck) {g : Nat} {x : Array Value} (hk : Blk w g 26 x) (a b c d e : Value) : SepT (((((w.setCell ⟨g, 0, none⟩ a).setCell ⟨g, 1, none⟩ b).setCell ⟨g, 2, none⟩ c).setCell ⟨g, 3, none⟩ d).setCell ⟨g, 4, none⟩ e) As Ac ns nc := by
  have k1 := hk.setJ 0 a
  have k2 := k1.setJ 1 b
  have k3 := k2.setJ 2 c
  have k4 := k3.setJ 3 d
  have o1 := OwnT.setO o hk 0 a
  have o2 := OwnT.setO o1 k1 1 b
  have o3 := OwnT.setO o2 k2 2 c
  have o4 := OwnT.setO o3 k3 3 d
  exact ((((h.varT o hk (by decide) (by decide) 0 a).varT o1 k1 (by decide) (by decide) 1 b).varT o2 k2 (by decide) (by decide) 2 c).varT o3 k3 (by decide) (by decide) 3 d).varT o4 k4 (by decide) (by decide) 4 e
end
def PutS (t : Tb) (As Ac Ak : Option Addr) (ns cs nc cc nk ck : Nat) (n : Nat) (L : List ByteArray) (w : World) (e : Ending) (w' : World) : Prop :=
  ((putE n L = 0 ∧ ∃ As' cs' Ac' cc' Ak' ck', e = .returned (.tuple #[tbV As' Ac' Ak' (putV t L).sch.length cs' (putV t L).cts.length cc' (putV t L).kds.length ck' (putV t L).lim (putV t L).rnd, .int .i64 0]) ∧ OwnT w' w.heap.size (putV t L).sch (putV t L).cts (putV t L).kds As' Ac' Ak' (putV t L).sch.length cs' (putV t L).cts.length cc' (putV t L).kds.length ck' ∧ SepT w' As' Ac' (putV t L).sch.length (putV t L).cts.length) ∨
   (putE n L ≠ 0 ∧ e = .returned (.tuple #[tbV As Ac Ak ns cs nc cc nk ck t.lim t.rnd, .int .i64 (putE n L)]))) ∧ Below w.heap.size w w'
theorem putS_yes {t : Tb} {As Ac Ak : Option Addr} {ns cs nc cc nk ck n : Nat} {L : List ByteArray} {w w' : World} {sch : List (List Bd)} {cts : List Ct} {kds : List Kd} {lim rnd : Int} {As' Ac' Ak' : Option Addr} {ns' cs' nc' cc' nk' ck' : Nat}
    (he : putE n L = 0) (hv : putV t L = ⟨sch, cts, kds, lim, rnd⟩) (hO : OwnT w' w.heap.size sch cts kds As' Ac' Ak' ns' cs' nc' cc' nk' ck') (hS : SepT w' As' Ac' ns' nc') (hb : Below w.heap.size w w') :
    PutS t As Ac Ak ns cs nc cc nk ck n L w (.returned (.tuple #[.agg #[.slice As' ns' cs', .slice Ac' nc' cc', .slice Ak' nk' ck', .int .i64 lim, .int .i64 rnd], .int .i64 0])) w' := by
  obtain ⟨n1, n2, n3⟩ := hO.len
  subst n1; subst n2; subst n3
  exact ⟨Or.inl ⟨he, As', cs', Ac', cc', Ak', ck', by rw [hv]; rfl, by rw [hv]; exact hO, by rw [hv]; exact hS⟩, hb⟩
theorem putS_no {t : Tb} {As Ac Ak : Option Addr} {ns cs nc cc nk ck n : Nat} {L : List ByteArray} {w w' : World} {r : Int} (he : putE n L = r) (h : r ≠ 0) (hb : Below w.heap.size w w') :
    PutS t As Ac Ak ns cs nc cc nk ck n L w (.returned (.tuple #[.agg #[.slice As ns cs, .slice Ac nc cc, .slice Ak nk ck, .int .i64 t.lim, .int .i64 t.rnd], .int .i64 r])) w' :=
  ⟨Or.inr ⟨by rw [he]; exact h, by rw [he]; rfl⟩, hb⟩
--%%
set_option maxRecDepth 100000 in
set_option maxHeartbeats 6400000 in
theorem tput_kindS (sch : List (List Bd)) (cts : List Ct) (kds : List Kd) (As Ac Ak : Option Addr) (ns cs nc cc nk ck : Nat) (lim rnd : Int) (A : Option Addr) (n c : Nat) (L : List ByteArray) (w : World) (hS : ScSl w As ns sch) (hC : CtSl w Ac nc cts) (hK : KdSl w Ak nk kds) (hn : ns ≤ 100000 ∧ nc ≤ 100000 ∧ nk ≤ 100000) (hb : (∀ k, k < ns → (sch.getD k []).length ≤ 100000) ∧ (∀ k, k < nc → (cts.getD k ct0).bands.length ≤ 100000)) (hl : StSl w A n L) (hc : n ≤ c) (hs : ∀ k, k < n → (L.getD k st0).size ≤ 1000000) (hn2 : n ≤ 1000) (hm : ML w) (ht : TabS w) (h2 : 2 ≤ n) (hlimit : ¬ L.getD 0 st0 = ⟨#[108, 105, 109, 105, 116]⟩) (hround : ¬ L.getD 0 st0 = ⟨#[114, 111, 117, 110, 100]⟩) (hscheme : ¬ L.getD 0 st0 = ⟨#[115, 99, 104, 101, 109, 101]⟩) (hcontrib : ¬ L.getD 0 st0 = ⟨#[99, 111, 110, 116, 114, 105, 98]⟩) (hkind : L.getD 0 st0 = ⟨#[107, 105, 110, 100]⟩) : Calls Tryz.prog 4 #[.agg #[.slice As ns cs, .slice Ac nc cc, .slice Ak nk ck, .int .i64 lim, .int .i64 rnd], .slice A n c] w (PutS ⟨sch, cts, kds, lim, rnd⟩ As Ac Ak ns cs nc cc nk ck n L w) := by
  have v2 : decide ((n : Int) < 2) = false := by simp; omega
  have t0 : ((L.getD 0 st0).toList == [108, 105, 109, 105, 116]) = false := by rw [str_const]; exact decide_eq_false hlimit
  have t1 : ((L.getD 0 st0).toList == [114, 111, 117, 110, 100]) = false := by rw [str_const]; exact decide_eq_false hround
  have t2 : ((L.getD 0 st0).toList == [115, 99, 104, 101, 109, 101]) = false := by rw [str_const]; exact decide_eq_false hscheme
  have t3 : ((L.getD 0 st0).toList == [99, 111, 110, 116, 114, 105, 98]) = false := by rw [str_const]; exact decide_eq_false hcontrib
  have t4 : ((L.getD 0 st0).toList == [107, 105, 110, 100]) = true := by rw [str_const]; exact decide_eq_true hkind
  have HE : Hid (putE n L = kwE (n - 1) (L.drop 1)) := by unfold Hid putE; rw [if_neg (by omega), if_neg hlimit, if_neg hround, if_neg hscheme, if_neg hcontrib, if_pos hkind]
  have HV : Hid (putV ⟨sch, cts, kds, lim, rnd⟩ L = ⟨sch, cts, kds ++ [kwV (L.drop 1)], lim, rnd⟩) := by unfold Hid putV; rw [if_neg hlimit, if_neg hround, if_neg hscheme, if_neg hcontrib]
  obtain ⟨b, off, rfl, hlt, hat⟩ := hl.2.2 (by omega)
  have c0 := hat 0 (by omega) 0 _ rfl
  have c1 := hat 1 (by omega) 0 _ rfl
  simp only [Nat.zero_mul, Nat.add_zero, Nat.one_mul] at c0 c1
  have hz0 := hs 0 (by omega)
  have hz1 := hs 1 (by omega)
  have HL := Lib.hid hl
  have HSZ := Lib.hid hs
  have HSD : Hid (∀ k, k < n - 1 → ((L.drop 1).getD k st0).size ≤ 1000000) := fun k hk => by
    rw [getD_drop L 1 k]; exact hs _ (by omega)
  have HM := Lib.hid hm
  have HT := Lib.hid ht
  have HB0 := Lib.hid (bA (below1 w (.cells #[.slice As ns cs, .slice Ac nc cc, .slice Ak nk ck, .int .i64 lim, .int .i64 rnd] 26)) (.cells #[.slice none 0 0, .slice none 0 0, .slice none 0 0, .int .i64 0, .int .i64 0] 26))
  have KC : Hid (∀ W, Below w.heap.size w W → Calls Tryz.prog 12 #[.agg #[.slice As ns cs, .slice Ac nc cc, .slice Ak nk ck, .int .i64 lim, .int .i64 rnd]] W (CloneS sch cts kds ns nc nk lim rnd W)) := fun W hW => tclone_s sch cts kds As Ac Ak ns cs nc cc nk ck lim rnd W (hS.below hW) (hC.below hW) (hK.below hW) hn hb
  have x1 := (Blk.mk w 26 #[.slice As ns cs, .slice Ac nc cc, .slice Ak nk ck, .int .i64 lim, .int .i64 rnd]).alloc (.cells #[.slice none 0 0, .slice none 0 0, .slice none 0 0, .int .i64 0, .int .i64 0] 26)
  have x2 := Blk.mk (w.alloc (.cells #[.slice As ns cs, .slice Ac nc cc, .slice Ak nk ck, .int .i64 lim, .int .i64 rnd] 26)) 26 #[.slice none 0 0, .slice none 0 0, .slice none 0 0, .int .i64 0, .int .i64 0]
  rw [World.size_alloc] at x2
  have HX1 := Lib.hid x1
  have HX2 := Lib.hid x2
  obtain ⟨hns, hnc, hnk⟩ := hn
  have HCAP := Lib.hid hc
  have HC1 : Hid (∀ W, Below w.heap.size w W → W.cell? ⟨b, off + 1, none⟩ = some (.string (L.getD 1 st0))) := fun W hW => (hW.cell (p := ⟨b, _, none⟩) hlt).trans c1
  have HC0 : Hid (∀ W, Below w.heap.size w W → W.cell? ⟨b, off, none⟩ = some (.string (L.getD 0 st0))) := fun W hW => (hW.cell (p := ⟨b, _, none⟩) hlt).trans c0
  clear hS hC hK hb hl hs hm ht x1 x2 hat c0 c1
  generalize L.getD 0 st0 = s0 at *
  have K1 : Hid (∀ W c0, n - 1 ≤ c0 → Below w.heap.size w W → TabS W → Calls Tryz.prog 17 #[.slice (some ⟨b, off + 1, none⟩) (n - 1) c0] W (KindR (n - 1) (L.drop 1) W)) := fun W c0 h hW htt => tkind_c _ (n - 1) c0 (L.drop 1) W (RowSl.below (HL.out.drop 1 (by omega)) hW) h HSD.out (HM.out.t hW)
  have HZN : Hid (((L.drop 1).getD 0 st0).size ≤ 9223372036854775807) := by unfold Hid; rw [getD_drop L 1 0]; show (L.getD 1 st0).size ≤ _; omega
  generalize L.drop 1 = LR at *
  obtain ⟨⟨nm, x1, x2, x3⟩, hz⟩ : ∃ z, kwV LR = z := ⟨_, rfl⟩
  have K2 : Hid (∀ W c0, n - 1 ≤ c0 → Below w.heap.size w W → TabS W → Calls Tryz.prog 17 #[.slice (some ⟨b, off + 1, none⟩) (n - 1) c0] W (KindQ nm x1 x2 x3 (kwE (n - 1) LR) W)) := fun W c0 h1 h2 h3 => (K1.out W c0 h1 h2 h3).mono (fun e w' h => kindQ hz h)
  rw [hz] at HV
  have HZ2 : Hid (nm.size ≤ 9223372036854775807) := by
    have h1 : (LR.getD 0 st0) = nm := congrArg Kd.nm hz
    unfold Hid; rw [← h1]; exact HZN.out
  have H05 : Hid (kwE (n - 1) LR ≠ 0 → kwE (n - 1) LR = 5) := fun h => by
    unfold kwE at h ⊢
    split at h
    · exact absurd rfl h
    · rename_i hh; rw [if_neg hh]
  generalize kwE (n - 1) LR = er at *
  clear K1 hz
  have kk1 : (1 : Int) ≤ (n : Int) := by omega
  have kk2 : (1 : Int) < (c : Int) := by omega
  have kk3 : 1 < c := by omega
  have kk4 : n ≤ c := HCAP.out
  go_enter Tryz.func4, Tryz.ntmps4
  go_wp2_with fail
  refine (KC.out _ HB0.out).mono ?_
  rintro e w1 ⟨⟨As1, cs1, Ac1, cc1, Ak1, ck1, rfl, hO, hSP⟩, hb1⟩
  have HSP := Lib.hid hSP
  clear hSP
  have HB1 := Lib.hid (bA (bT HB0.out hb1) (.cells #[.slice As1 ns cs1, .slice Ac1 nc cc1, .slice Ak1 nk ck1, .int .i64 lim, .int .i64 rnd] 26))
  have HO1 : Hid (OwnT w1 w.heap.size sch cts kds As1 Ac1 Ak1 ns cs1 nc cc1 nk ck1) := by
    have hz := HB0.out.size
    obtain ⟨⟨ls, e1, o1, b1⟩, ⟨lc, e2, o2, b2⟩, o3, b3⟩ := hO
    exact ⟨⟨ls, e1, own_more o1 hz, fun p hp => ⟨(b1 p hp).1, own_more (b1 p hp).2 hz⟩⟩, ⟨lc, e2, own_more o2 hz, fun p hp => ⟨⟨(b2 p hp).1.1, own_more (b2 p hp).1.2 hz⟩, (b2 p hp).2⟩⟩, own_more o3 hz, b3⟩
  have HX1a := Lib.hid ((HX1.out.t hb1).alloc (.cells #[.slice As1 ns cs1, .slice Ac1 nc cc1, .slice Ak1 nk ck1, .int .i64 lim, .int .i64 rnd] 26))
  have HX2a := Lib.hid ((HX2.out.t hb1).alloc (.cells #[.slice As1 ns cs1, .slice Ac1 nc cc1, .slice Ak1 nk ck1, .int .i64 lim, .int .i64 rnd] 26))
  have HX3a := Lib.hid (Blk.mk w1 26 #[.slice As1 ns cs1, .slice Ac1 nc cc1, .slice Ak1 nk ck1, .int .i64 lim, .int .i64 rnd])
  have HSa := Lib.hid (HSP.out.belowT HO1.out (below1 w1 (.cells #[.slice As1 ns cs1, .slice Ac1 nc cc1, .slice Ak1 nk ck1, .int .i64 lim, .int .i64 rnd] 26)))
  have HOa := Lib.hid (HO1.out.below (below1 w1 (.cells #[.slice As1 ns cs1, .slice Ac1 nc cc1, .slice Ak1 nk ck1, .int .i64 lim, .int .i64 rnd] 26)))
  have hz1' := (bT HB0.out hb1).size
  have hb1s := hb1.size
  have hw2 : w.heap.size + 1 + 1 ≤ w1.heap.size := by simpa using hb1s
  have ne1 : ¬ w.heap.size = w1.heap.size := by omega
  have ne2 : ¬ w1.heap.size = w.heap.size := by omega
  have ne3 : ¬ w.heap.size + 1 = w1.heap.size := by omega
  have ne4 : ¬ w1.heap.size = w.heap.size + 1 := by omega
  have q0 := HC0.out _ HB1.out
  have q1 := HC1.out _ HB1.out
  clear hO hb1 hb1s
  have HB1z := Lib.hid (bA HB1.out (.cells #[.string ⟨#[]⟩, .int .i64 0, .int .i64 0, .int .i64 0] 56))
  have HTZ := Lib.hid (HT.out.t HB1z.out)
  go_wp2_with fail
  refine (K2.out _ _ (by omega) HB1z.out HTZ.out).mono ?_
  rintro e w2 ⟨hr, hb2⟩
  have HBb := Lib.hid (bT HB1z.out hb2)
  have HX1b := Lib.hid ((HX1a.out.alloc (.cells #[.string ⟨#[]⟩, .int .i64 0, .int .i64 0, .int .i64 0] 56)).t hb2)
  have HX2b := Lib.hid ((HX2a.out.alloc (.cells #[.string ⟨#[]⟩, .int .i64 0, .int .i64 0, .int .i64 0] 56)).t hb2)
  have HX3b := Lib.hid ((HX3a.out.alloc (.cells #[.string ⟨#[]⟩, .int .i64 0, .int .i64 0, .int .i64 0] 56)).t hb2)
  have y := Blk.mk (w1.alloc (.cells #[.slice As1 ns cs1, .slice Ac1 nc cc1, .slice Ak1 nk ck1, .int .i64 lim, .int .i64 rnd] 26)) 56 #[.string ⟨#[]⟩, .int .i64 0, .int .i64 0, .int .i64 0]
  rw [World.size_alloc] at y
  have HXZ := Lib.hid (y.t hb2)
  have HOb := Lib.hid ((HOa.out.below (below1 _ (.cells #[.string ⟨#[]⟩, .int .i64 0, .int .i64 0, .int .i64 0] 56))).below hb2)
  have hs2 := HBb.out.size
  have hs1 := HB1z.out.size
  have HBQ := Lib.hid hb2
  clear hb2 q0 q1 y
  rcases hr with ⟨h0, rfl⟩ | ⟨h0, rfl⟩
  · have HE0 := Lib.hid (HE.out.trans h0)
    clear h0
    obtain ⟨⟨r0, r1, r2, r3⟩, d0, d1, d2, d3⟩ := HXZ.out.a4g
    have HBN : Hid (Below (w1.alloc (.cells #[.slice As1 ns cs1, .slice Ac1 nc cc1, .slice Ak1 nk ck1, .int .i64 lim, .int .i64 rnd] 26)).heap.size (w1.alloc (.cells #[.slice As1 ns cs1, .slice Ac1 nc cc1, .slice Ak1 nk ck1, .int .i64 lim, .int .i64 rnd] 26)) ((((w2.setCell ⟨w1.heap.size + 1, 0, none⟩ (.string nm)).setCell ⟨w1.heap.size + 1, 1, none⟩ (.int .i64 x1)).setCell ⟨w1.heap.size + 1, 2, none⟩ (.int .i64 x2)).setCell ⟨w1.heap.size + 1, 3, none⟩ (.int .i64 x3))) := bS4 (bT (below1 _ _) HBQ.out) (by simp) _ _ _ _
    have HXW : Hid (Blk ((((w2.setCell ⟨w1.heap.size + 1, 0, none⟩ (.string nm)).setCell ⟨w1.heap.size + 1, 1, none⟩ (.int .i64 x1)).setCell ⟨w1.heap.size + 1, 2, none⟩ (.int .i64 x2)).setCell ⟨w1.heap.size + 1, 3, none⟩ (.int .i64 x3)) (w1.heap.size + 1) 56 #[.string nm, .int .i64 x1, .int .i64 x2, .int .i64 x3]) := HXZ.out.set4 _ _ _ _
    have HX1c := Lib.hid (HX1a.out.t HBN.out)
    have HX2c := Lib.hid (HX2a.out.t HBN.out)
    have HX3c := Lib.hid (HX3a.out.t HBN.out)
    have HBc := Lib.hid (bT HB1.out HBN.out)
    have HSc := Lib.hid (HSa.out.belowT HOa.out HBN.out)
    have HOc := Lib.hid (HOa.out.below HBN.out)
    have hsc := HBc.out.size
    have HROW := Lib.hid HOc.out.k.1
    obtain ⟨⟨u0, u1, u2, u3, u4⟩, g0, g1, g2, g3, g4⟩ := HX3c.out.a5g
    obtain ⟨s10, s11, s12, s13⟩ := HXW.out.a4g.1
    go_wp2_with (at_builtin; refine wpList_app1 _ rfl _ _ 24 rfl 56 _ 4 40 Tryz.underlying24 info_kind rfl (by decide) rfl HROW.out _ rfl (by first | rfl | simp) rfl (by simp [Value.oneCell']) (by omega) (by omega) (by first | omega | (simp; omega)) ?_; intro v' w6 ho' hg; obtain ⟨A6, c6, rfl⟩ := own_slice ho'; have HX1d := Lib.hid (HX1c.out.grown hg (own_blk HROW.out HX1c.out (by decide))); have HX2d := Lib.hid (HX2c.out.grown hg (own_blk HROW.out HX2c.out (by decide))); have HX3d := Lib.hid (HX3c.out.grown hg (own_blk HROW.out HX3c.out (by decide))); have HBd := Lib.hid (bP HBc.out HROW.out hg (Nat.le_refl _)); obtain ⟨⟨u0, u1, u2, u3, u4⟩, g0, g1, g2, g3, g4⟩ := HX3d.out.a5g; obtain ⟨⟨z0, z1, z2, z3, z4⟩, f0, f1, f2, f3, f4⟩ := HX2d.out.a5g; obtain ⟨⟨y0, y1, y2, y3, y4⟩, _⟩ := HX1d.out.a5g; have HO6 := Lib.hid ho'; have HG6 := Lib.hid hg; clear ho' hg)
    have HSd := Lib.hid (HSc.out.kindT HOc.out HG6.out)
    have HOd := Lib.hid (HOc.out.app_k (x := ⟨nm, x1, x2, x3⟩) HZ2.out (by simpa [kdC] using HO6.out) HG6.out)
    go_wp2_with fail
    refine bodyPost_ret (v := .tuple #[.agg #[.slice As1 ns cs1, .slice Ac1 nc cc1, .slice A6 (nk + 1) c6, .int .i64 lim, .int .i64 rnd], .int .i64 0]) (by simp [results, Tryz.results4, go_sem, z0, z1, z2, z3, z4]) rfl (putS_yes HE0.out HV.out ?_ ?_ ?_)
    · exact (OwnT.setO HOd.out HX3d.out 2 _).set5 (HX2d.out.setO ne3 2 _) _ _ _ _ _
    · exact (HSd.out.varT HOd.out HX3d.out (by decide) (by decide) 2 _).five5 (OwnT.setO HOd.out HX3d.out 2 _) (HX2d.out.setO ne3 2 _) _ _ _ _ _
    · have h6 : Below w.heap.size w (w6.setCell ⟨w1.heap.size, 2, none⟩ (.slice A6 (nk + 1) c6)) := bS HBd.out hz1' _
      exact bS5s h6 (Nat.le_succ _) _ _ _ _ _
  · have HNZ := Lib.hid h0
    have HE5 : Hid (putE n L = 5) := HE.out.trans (H05.out h0)
    clear h0
    obtain ⟨⟨r0, r1, r2, r3⟩, d0, d1, d2, d3⟩ := HXZ.out.a4g
    have HBN : Hid (Below (w1.alloc (.cells #[.slice As1 ns cs1, .slice Ac1 nc cc1, .slice Ak1 nk ck1, .int .i64 lim, .int .i64 rnd] 26)).heap.size (w1.alloc (.cells #[.slice As1 ns cs1, .slice Ac1 nc cc1, .slice Ak1 nk ck1, .int .i64 lim, .int .i64 rnd] 26)) ((((w2.setCell ⟨w1.heap.size + 1, 0, none⟩ (.string ⟨#[]⟩)).setCell ⟨w1.heap.size + 1, 1, none⟩ (.int .i64 0)).setCell ⟨w1.heap.size + 1, 2, none⟩ (.int .i64 0)).setCell ⟨w1.heap.size + 1, 3, none⟩ (.int .i64 0))) := bS4 (bT (below1 _ _) HBQ.out) (by simp) _ _ _ _
    have HXW : Hid (Blk ((((w2.setCell ⟨w1.heap.size + 1, 0, none⟩ (.string ⟨#[]⟩)).setCell ⟨w1.heap.size + 1, 1, none⟩ (.int .i64 0)).setCell ⟨w1.heap.size + 1, 2, none⟩ (.int .i64 0)).setCell ⟨w1.heap.size + 1, 3, none⟩ (.int .i64 0)) (w1.heap.size + 1) 56 #[.string ⟨#[]⟩, .int .i64 0, .int .i64 0, .int .i64 0]) := HXZ.out.set4 _ _ _ _
    have HX1c := Lib.hid (HX1a.out.t HBN.out)
    have HX2c := Lib.hid (HX2a.out.t HBN.out)
    have HX3c := Lib.hid (HX3a.out.t HBN.out)
    have HBc := Lib.hid (bT HB1.out HBN.out)
    have HOc := Lib.hid (HOa.out.below HBN.out)
    have hsc := HBc.out.size
    have HROW := Lib.hid HOc.out.k.1
    obtain ⟨⟨u0, u1, u2, u3, u4⟩, g0, g1, g2, g3, g4⟩ := HX3c.out.a5g
    obtain ⟨s10, s11, s12, s13⟩ := HXW.out.a4g.1
    go_wp2_with (at_builtin; refine wpList_app1 _ rfl _ _ 24 rfl 56 _ 4 40 Tryz.underlying24 info_kind rfl (by decide) rfl HROW.out _ rfl (by first | rfl | simp) rfl (by simp [Value.oneCell']) (by omega) (by omega) (by first | omega | (simp; omega)) ?_; intro v' w6 ho' hg; obtain ⟨A6, c6, rfl⟩ := own_slice ho'; have HX1d := Lib.hid (HX1c.out.grown hg (own_blk HROW.out HX1c.out (by decide))); have HX2d := Lib.hid (HX2c.out.grown hg (own_blk HROW.out HX2c.out (by decide))); have HX3d := Lib.hid (HX3c.out.grown hg (own_blk HROW.out HX3c.out (by decide))); have HBd := Lib.hid (bP HBc.out HROW.out hg (Nat.le_refl _)); obtain ⟨⟨u0, u1, u2, u3, u4⟩, g0, g1, g2, g3, g4⟩ := HX3d.out.a5g; obtain ⟨⟨z0, z1, z2, z3, z4⟩, f0, f1, f2, f3, f4⟩ := HX2d.out.a5g; obtain ⟨⟨y0, y1, y2, y3, y4⟩, _⟩ := HX1d.out.a5g; have HO6 := Lib.hid ho'; have HG6 := Lib.hid hg; clear ho' hg)
    go_wp2_with fail
    refine bodyPost_ret (v := .tuple #[.agg #[.slice As ns cs, .slice Ac nc cc, .slice Ak nk ck, .int .i64 lim, .int .i64 rnd], .int .i64 5]) (by simp [results, Tryz.results4, go_sem, z0, z1, z2, z3, z4]) rfl (putS_no (t := ⟨sch, cts, kds, lim, rnd⟩) HE5.out (by decide) ?_)
    have h6 : Below w.heap.size w (w6.setCell ⟨w1.heap.size, 2, none⟩ (.slice A6 (nk + 1) c6)) := bS HBd.out hz1' _
    exact bS5s h6 (Nat.le_succ _) _ _ _ _ _
--%%
end Go.Proofs.YtcngmajkkhipoaaGreatDoor
