/-
  Contract of table.Diff. Conditions as named.
-/
import Derived.Test.YtbliblhipecgfaaGreatDoorTMap
import Derived.Deep.RegionHeld3
namespace Go.Proofs.YtbliblhipecgfaaGreatDoor
set_option linter.unusedVariables false
open Go.RowKit
def chC (x : Bool × ByteArray) : List Value := [.bool x.1, .string x.2]
theorem chC_len (x : Bool × ByteArray) : (chC x).length = 2 := rfl
def ch0 : Bool × ByteArray := (false, st0)
def OwnCh (w : World) (base : Nat) (v : Value) (n : Nat) (l : List (Bool × ByteArray)) : Prop := n = l.length ∧ w.ownsRow base 47 2 v n (l.flatMap chC)
theorem info_ch : (Tryz.prog.info? 47).map (fun i => (i.zero, i.size, i.bytes)) = some (some (.agg #[.bool false, .string ⟨#[]⟩]), 2, 24) := by kernel_rfl
theorem st_kept {w w' : World} {base n m : Nat} {v x : Value} {l : List ByteArray} {ys : List Value} (h : OwnSt w base v n l) (ho : w.ownsRow base 47 2 x m ys) (hg : w.grownBy w' x.ownBlock) : OwnSt w' base v n l := ⟨h.1, h.2.kept hg (own_own h.2 ho (by decide))⟩
def woL (L M : List ByteArray) : List ByteArray := woO (cntF M M.length) L L.length
def diffL (t u : Tb) : List (Bool × ByteArray) := (woL (tbL t) (tbL u)).map (fun s => (false, s)) ++ (woL (tbL u) (tbL t)).map (fun s => (true, s))
def LinesQ (t : Tb) (w : World) (e : Ending) (w' : World) : Prop := ∃ A c, (e = .returned (.slice A (tbL t).length c) ∧ OwnSt w' w.heap.size (.slice A (tbL t).length c) (tbL t).length (tbL t)) ∧ Below w.heap.size w w'
theorem tb_few {t : Tb} (h : tbE t = 0) : (tbL t).length ≤ 100 := by
  obtain ⟨_, s8, c6, k12, _⟩ := tbE_ok h
  have := tbL_len t
  omega
theorem tb_small {t : Tb} (h : tbE t = 0) : ∀ k, k < (tbL t).length → ((tbL t).getD k st0).size ≤ 1000000 := fun k hk => by
  have := line_small h k (by rw [← tbL_n]; exact hk)
  omega
def DiffR (l : List (Bool × ByteArray)) (w : World) (e : Ending) (w' : World) : Prop := ∃ A c, (e = .returned (.slice A l.length c) ∧ OwnCh w' w.heap.size (.slice A l.length c) l.length l) ∧ Below w.heap.size w w'
theorem woO_small {f : ByteArray → Int} {L : List ByteArray} {m : Nat} (h : ∀ k, k < L.length → (L.getD k st0).size ≤ m) : ∀ k, k ≤ L.length → ∀ s ∈ woO f L k, s.size ≤ m := by
  intro k
  induction k with
  | zero => intro _ s hs; simp [woO] at hs
  | succ k ih =>
    intro hk s hs
    unfold woO at hs
    split at hs
    · exact ih (by omega) s hs
    · rcases List.mem_append.1 hs with hs | hs
      · exact ih (by omega) s hs
      · rw [List.mem_singleton.1 hs]; exact h k (by omega)
--%%
set_option maxRecDepth 100000 in
set_option maxHeartbeats 6400000 in
theorem diff_c (t u : Tb) (As Ac Ak Us Uc Uk : Option Addr) (ns cs nc cc nk ck us vs uc vc uk vk : Nat) (lim rnd ul ur : Int) (w : World) (ht : TbIn w t.sch t.cts t.kds As Ac Ak ns cs nc cc nk ck) (hu : TbIn w u.sch u.cts u.kds Us Uc Uk us vs uc vc uk vk) (hl1 : t.lim = lim ∧ t.rnd = rnd) (hl2 : u.lim = ul ∧ u.rnd = ur) (h1 : tbE t = 0) (h2 : tbE u = 0) (htab : Tab w) (htab2 : TabS w) :
    Calls Tryz.prog 19 #[.agg #[.slice As ns cs, .slice Ac nc cc, .slice Ak nk ck, .int .i64 lim, .int .i64 rnd], .agg #[.slice Us us vs, .slice Uc uc vc, .slice Uk uk vk, .int .i64 ul, .int .i64 ur]] w (DiffR (diffL t u) w) := by
  obtain ⟨rfl, rfl⟩ := hl1
  obtain ⟨rfl, rfl⟩ := hl2
  have hb0 := bA (below1 w (.cells #[.slice As ns cs, .slice Ac nc cc, .slice Ak nk ck, .int .i64 t.lim, .int .i64 t.rnd] 26)) (.cells #[.slice Us us vs, .slice Uc uc vc, .slice Uk uk vk, .int .i64 u.lim, .int .i64 u.rnd] 26)
  have HB0 := Lib.hid hb0
  have y := (Blk.mk w 26 #[.slice As ns cs, .slice Ac nc cc, .slice Ak nk ck, .int .i64 t.lim, .int .i64 t.rnd]).alloc (.cells #[.slice Us us vs, .slice Uc uc vc, .slice Uk uk vk, .int .i64 u.lim, .int .i64 u.rnd] 26)
  have z := Blk.mk (w.alloc (.cells #[.slice As ns cs, .slice Ac nc cc, .slice Ak nk ck, .int .i64 t.lim, .int .i64 t.rnd] 26)) 26 #[.slice Us us vs, .slice Uc uc vc, .slice Uk uk vk, .int .i64 u.lim, .int .i64 u.rnd]
  rw [World.size_alloc] at z
  have KL : ∀ (t : Tb) (As Ac Ak : Option Addr) (ns cs nc cc nk ck : Nat), TbIn w t.sch t.cts t.kds As Ac Ak ns cs nc cc nk ck → tbE t = 0 → ∀ W, Below w.heap.size w W → Calls Tryz.prog 15 #[.agg #[.slice As ns cs, .slice Ac nc cc, .slice Ak nk ck, .int .i64 t.lim, .int .i64 t.rnd]] W (LinesQ t W) := fun t As Ac Ak ns cs nc cc nk ck h he W hW => by
    refine (tlines_c t As Ac Ak ns cs nc cc nk ck W ⟨h.s.below hW, h.c.below hW, h.k.below hW, h.cs, h.cc, h.ck⟩ (htab.t hW) (htab2.t hW)).mono ?_
    rintro e w' ⟨⟨_, v, rfl, hov⟩ | ⟨hne, _⟩, hb⟩
    · obtain ⟨A, c, rfl⟩ := own_slice hov.2
      exact ⟨A, c, ⟨rfl, hov⟩, hb⟩
    · exact absurd he hne
  have K1 : Hid (∀ W, Below (((w.alloc (.cells #[.slice As ns cs, .slice Ac nc cc, .slice Ak nk ck, .int .i64 t.lim, .int .i64 t.rnd] 26)).alloc (.cells #[.slice Us us vs, .slice Uc uc vc, .slice Uk uk vk, .int .i64 u.lim, .int .i64 u.rnd] 26))).heap.size ((w.alloc (.cells #[.slice As ns cs, .slice Ac nc cc, .slice Ak nk ck, .int .i64 t.lim, .int .i64 t.rnd] 26)).alloc (.cells #[.slice Us us vs, .slice Uc uc vc, .slice Uk uk vk, .int .i64 u.lim, .int .i64 u.rnd] 26)) W → Calls Tryz.prog 15 #[.agg #[.slice As ns cs, .slice Ac nc cc, .slice Ak nk ck, .int .i64 t.lim, .int .i64 t.rnd]] W (LinesQ t W)) := fun W hW => KL t As Ac Ak ns cs nc cc nk ck ht h1 W (bT hb0 hW)
  have K2 : Hid (∀ W, Below (((w.alloc (.cells #[.slice As ns cs, .slice Ac nc cc, .slice Ak nk ck, .int .i64 t.lim, .int .i64 t.rnd] 26)).alloc (.cells #[.slice Us us vs, .slice Uc uc vc, .slice Uk uk vk, .int .i64 u.lim, .int .i64 u.rnd] 26))).heap.size ((w.alloc (.cells #[.slice As ns cs, .slice Ac nc cc, .slice Ak nk ck, .int .i64 t.lim, .int .i64 t.rnd] 26)).alloc (.cells #[.slice Us us vs, .slice Uc uc vc, .slice Uk uk vk, .int .i64 u.lim, .int .i64 u.rnd] 26)) W → Calls Tryz.prog 15 #[.agg #[.slice Us us vs, .slice Uc uc vc, .slice Uk uk vk, .int .i64 u.lim, .int .i64 u.rnd]] W (LinesQ u W)) := fun W hW => KL u Us Uc Uk us vs uc vc uk vk hu h2 W (bT hb0 hW)
  have n1 := tb_few h1
  have n2 := tb_few h2
  have HS1 := Lib.hid (tb_small h1)
  have HS2 := Lib.hid (tb_small h2)
  have HDL : Hid (diffL t u = (woL (tbL t) (tbL u)).map (fun s => (false, s)) ++ (woL (tbL u) (tbL t)).map (fun s => (true, s))) := rfl
  have HW1 : Hid ((woL (tbL t) (tbL u)).length ≤ 100) := by
    have := woO_len (cntF (tbL u) (tbL u).length) (tbL t) (tbL t).length
    unfold Hid woL; omega
  have HW2 : Hid ((woL (tbL u) (tbL t)).length ≤ 100) := by
    have := woO_len (cntF (tbL t) (tbL t).length) (tbL u) (tbL u).length
    unfold Hid woL; omega
  have G : Hid (∀ W, Below (((w.alloc (.cells #[.slice As ns cs, .slice Ac nc cc, .slice Ak nk ck, .int .i64 t.lim, .int .i64 t.rnd] 26)).alloc (.cells #[.slice Us us vs, .slice Uc uc vc, .slice Uk uk vk, .int .i64 u.lim, .int .i64 u.rnd] 26))).heap.size ((w.alloc (.cells #[.slice As ns cs, .slice Ac nc cc, .slice Ak nk ck, .int .i64 t.lim, .int .i64 t.rnd] 26)).alloc (.cells #[.slice Us us vs, .slice Uc uc vc, .slice Uk uk vk, .int .i64 u.lim, .int .i64 u.rnd] 26)) W → Below (((w.alloc (.cells #[.slice As ns cs, .slice Ac nc cc, .slice Ak nk ck, .int .i64 t.lim, .int .i64 t.rnd] 26)).alloc (.cells #[.slice Us us vs, .slice Uc uc vc, .slice Uk uk vk, .int .i64 u.lim, .int .i64 u.rnd] 26))).heap.size ((w.alloc (.cells #[.slice As ns cs, .slice Ac nc cc, .slice Ak nk ck, .int .i64 t.lim, .int .i64 t.rnd] 26)).alloc (.cells #[.slice Us us vs, .slice Uc uc vc, .slice Uk uk vk, .int .i64 u.lim, .int .i64 u.rnd] 26)) W ∧ (W.cell? ⟨w.heap.size, 0, none⟩ = some (.slice As ns cs) ∧ W.cell? ⟨w.heap.size, 1, none⟩ = some (.slice Ac nc cc) ∧ W.cell? ⟨w.heap.size, 2, none⟩ = some (.slice Ak nk ck) ∧ W.cell? ⟨w.heap.size, 3, none⟩ = some (.int .i64 t.lim) ∧ W.cell? ⟨w.heap.size, 4, none⟩ = some (.int .i64 t.rnd)) ∧ (W.cell? ⟨w.heap.size + 1, 0, none⟩ = some (.slice Us us vs) ∧ W.cell? ⟨w.heap.size + 1, 1, none⟩ = some (.slice Uc uc vc) ∧ W.cell? ⟨w.heap.size + 1, 2, none⟩ = some (.slice Uk uk vk) ∧ W.cell? ⟨w.heap.size + 1, 3, none⟩ = some (.int .i64 u.lim) ∧ W.cell? ⟨w.heap.size + 1, 4, none⟩ = some (.int .i64 u.rnd))) := fun W hW => ⟨hW, (y.t hW).all5, (z.t hW).all5⟩
  obtain ⟨p0, p1, p2, p3, p4⟩ := y.all5
  obtain ⟨q0, q1, q2, q3, q4⟩ := z.all5
  clear ht hu h1 h2 htab htab2 KL hb0 y z
  go_enter Tryz.func19, Tryz.ntmps19
  go_wp2_with fail
  go_region_held3 (fun W => Below (((w.alloc (.cells #[.slice As ns cs, .slice Ac nc cc, .slice Ak nk ck, .int .i64 t.lim, .int .i64 t.rnd] 26)).alloc (.cells #[.slice Us us vs, .slice Uc uc vc, .slice Uk uk vk, .int .i64 u.lim, .int .i64 u.rnd] 26))).heap.size ((w.alloc (.cells #[.slice As ns cs, .slice Ac nc cc, .slice Ak nk ck, .int .i64 t.lim, .int .i64 t.rnd] 26)).alloc (.cells #[.slice Us us vs, .slice Uc uc vc, .slice Uk uk vk, .int .i64 u.lim, .int .i64 u.rnd] 26)) W ∧ (W.cell? ⟨w.heap.size, 0, none⟩ = some (.slice As ns cs) ∧ W.cell? ⟨w.heap.size, 1, none⟩ = some (.slice Ac nc cc) ∧ W.cell? ⟨w.heap.size, 2, none⟩ = some (.slice Ak nk ck) ∧ W.cell? ⟨w.heap.size, 3, none⟩ = some (.int .i64 t.lim) ∧ W.cell? ⟨w.heap.size, 4, none⟩ = some (.int .i64 t.rnd)) ∧ (W.cell? ⟨w.heap.size + 1, 0, none⟩ = some (.slice Us us vs) ∧ W.cell? ⟨w.heap.size + 1, 1, none⟩ = some (.slice Uc uc vc) ∧ W.cell? ⟨w.heap.size + 1, 2, none⟩ = some (.slice Uk uk vk) ∧ W.cell? ⟨w.heap.size + 1, 3, none⟩ = some (.int .i64 u.lim) ∧ W.cell? ⟨w.heap.size + 1, 4, none⟩ = some (.int .i64 u.rnd)))
    (first | assumption | exact G.out _ (b0 _).drew | (exact sK G.out (by assumption) (by assumption)))
    (first
      | (go_at_call 15; (with_reducible refine (K1.out _ (show Below (((w.alloc (.cells #[.slice As ns cs, .slice Ac nc cc, .slice Ak nk ck, .int .i64 t.lim, .int .i64 t.rnd] 26)).alloc (.cells #[.slice Us us vs, .slice Uc uc vc, .slice Uk uk vk, .int .i64 u.lim, .int .i64 u.rnd] 26))).heap.size ((w.alloc (.cells #[.slice As ns cs, .slice Ac nc cc, .slice Ak nk ck, .int .i64 t.lim, .int .i64 t.rnd] 26)).alloc (.cells #[.slice Us us vs, .slice Uc uc vc, .slice Uk uk vk, .int .i64 u.lim, .int .i64 u.rnd] 26)) _ ∧ _ ∧ _ from by assumption).1).mono ?_); rintro e wA ⟨AA, cA, ⟨rfl, ho1⟩, hb1⟩)
      | (go_at_call 15; (with_reducible refine (K2.out _ (show Below (((w.alloc (.cells #[.slice As ns cs, .slice Ac nc cc, .slice Ak nk ck, .int .i64 t.lim, .int .i64 t.rnd] 26)).alloc (.cells #[.slice Us us vs, .slice Uc uc vc, .slice Uk uk vk, .int .i64 u.lim, .int .i64 u.rnd] 26))).heap.size ((w.alloc (.cells #[.slice As ns cs, .slice Ac nc cc, .slice Ak nk ck, .int .i64 t.lim, .int .i64 t.rnd] 26)).alloc (.cells #[.slice Us us vs, .slice Uc uc vc, .slice Uk uk vk, .int .i64 u.lim, .int .i64 u.rnd] 26)) _ ∧ _ ∧ _ from by assumption).1).mono ?_); rintro e wB ⟨AB, cB, ⟨rfl, ho2⟩, hb2⟩))
  have hS := (show Below (((w.alloc (.cells #[.slice As ns cs, .slice Ac nc cc, .slice Ak nk ck, .int .i64 t.lim, .int .i64 t.rnd] 26)).alloc (.cells #[.slice Us us vs, .slice Uc uc vc, .slice Uk uk vk, .int .i64 u.lim, .int .i64 u.rnd] 26))).heap.size ((w.alloc (.cells #[.slice As ns cs, .slice Ac nc cc, .slice Ak nk ck, .int .i64 t.lim, .int .i64 t.rnd] 26)).alloc (.cells #[.slice Us us vs, .slice Uc uc vc, .slice Uk uk vk, .int .i64 u.lim, .int .i64 u.rnd] 26)) _ ∧ _ ∧ _ from by assumption).1
  have hAB : Below wA.heap.size wA wB := by first | exact hb2 | exact bT (b0 wA).drew hb2
  have hszA : w.heap.size ≤ wA.heap.size := by first | exact (bT HB0.out hb1).size | exact (bT HB0.out.drew hb1).size
  have hsz2 : w.heap.size ≤ (((w.alloc (.cells #[.slice As ns cs, .slice Ac nc cc, .slice Ak nk ck, .int .i64 t.lim, .int .i64 t.rnd] 26)).alloc (.cells #[.slice Us us vs, .slice Uc uc vc, .slice Uk uk vk, .int .i64 u.lim, .int .i64 u.rnd] 26))).heap.size := HB0.out.size
  have HA := Lib.hid (show OwnSt wB w.heap.size (.slice AA (tbL t).length cA) (tbL t).length (tbL t) from ⟨ho1.1, row_mono (own_below ho1.2 hAB) hsz2⟩)
  have HB := Lib.hid (show OwnSt wB w.heap.size (.slice AB (tbL u).length cB) (tbL u).length (tbL u) from ⟨ho2.1, row_mono ho2.2 hszA⟩)
  have HBB := Lib.hid (bT HB0.out hS)
  clear hS hAB hszA hsz2 ho1 ho2 hb1 hb2 K1 K2 G p0 p1 p2 p3 p4 q0 q1 q2 q3 q4
  generalize tbL t = LT at *
  generalize tbL u = LU at *
  have KW : Hid (∀ W, OwnSt W w.heap.size (.slice AA LT.length cA) LT.length LT → OwnSt W w.heap.size (.slice AB LU.length cB) LU.length LU → Calls Tryz.prog 44 #[.slice AA LT.length cA, .slice AB LU.length cB] W (GivesSt (woL LT LU).length (woL LT LU) W)) := fun W h1 h2 => by
    obtain ⟨A1, c1, he1, _, hs1⟩ := own_sl stC 1 st0 stC_len h1.2 h1.1 (by decide)
    obtain ⟨A2, c2, he2, _, hs2⟩ := own_sl stC 1 st0 stC_len h2.2 h2.1 (by decide)
    injection he1 with y1 _ y2
    injection he2 with z1 _ z2
    subst y1; subst z1
    exact without_c AA AB LT.length cA LU.length cB LT LU W hs1 hs2 HS1.out HS2.out (by omega) (by omega)
  have KX : Hid (∀ W, OwnSt W w.heap.size (.slice AA LT.length cA) LT.length LT → OwnSt W w.heap.size (.slice AB LU.length cB) LU.length LU → Calls Tryz.prog 44 #[.slice AB LU.length cB, .slice AA LT.length cA] W (GivesSt (woL LU LT).length (woL LU LT) W)) := fun W h1 h2 => by
    obtain ⟨A1, c1, he1, _, hs1⟩ := own_sl stC 1 st0 stC_len h1.2 h1.1 (by decide)
    obtain ⟨A2, c2, he2, _, hs2⟩ := own_sl stC 1 st0 stC_len h2.2 h2.1 (by decide)
    injection he1 with y1 _ y2
    injection he2 with z1 _ z2
    subst y1; subst z1
    exact without_c AB AA LU.length cB LT.length cA LU LT W hs2 hs1 HS2.out HS1.out (by omega) (by omega)
  generalize woL LT LU = X1 at *
  generalize woL LU LT = X2 at *
  go_wp2_with fail
  refine (KW.out _ HA.out HB.out).mono ?_
  rintro e wC ⟨⟨v, rfl, hov⟩, hbC⟩
  obtain ⟨AX, cX, rfl⟩ := own_slice hov.2
  have HX := Lib.hid (show OwnSt wC w.heap.size (.slice AX X1.length cX) X1.length X1 from ⟨hov.1, row_mono hov.2 HBB.out.size⟩)
  have HAC := Lib.hid (HA.out.below hbC)
  have HBC := Lib.hid (HB.out.below hbC)
  have HBW := Lib.hid (bT HBB.out hbC)
  clear hov hbC KW HA HB HBB
  go_wp2_with fail
  go_loopw [7, 20] (fun v i wr => ∃ (k : Nat) (A1 : Option Addr) (c1 : Nat), k ≤ X1.length ∧ i = .int .i64 k ∧ v = .slice A1 (k) c1 ∧ Hid (OwnCh wr w.heap.size (.slice A1 (k) c1) (k) ((X1.take k).map (fun s => (false, s)))) ∧ Hid (OwnSt wr w.heap.size (.slice AX X1.length cX) X1.length X1) ∧ Hid (OwnSt wr w.heap.size (.slice AA LT.length cA) LT.length LT) ∧ Hid (OwnSt wr w.heap.size (.slice AB LU.length cB) LU.length LU) ∧ Below w.heap.size w wr) (fun _ i _ => X1.length - (intOf i).toNat)
  case atStart => exact ⟨0, none, 0, Nat.zero_le _, rfl, rfl, ⟨rfl, World.ownsRow_nil _ _ _ _⟩, HX.out, HAC.out, HBC.out, HBW.out⟩
  case round =>
    obtain ⟨k, A1, c1, hk', rfl, rfl, HO, HX, HA, HB, hbl⟩ := hrel
    by_cases hk : k < X1.length
    case pos =>
      obtain ⟨A9, c9, he9, hn9, hst⟩ := own_sl stC 1 st0 stC_len HX.out.2 HX.out.1 (by decide)
      injection he9 with y1 _ y2
      subst y1; subst y2
      obtain ⟨b, off, rfl, hlt, hat⟩ := hst.2.2 (by omega)
      have q := hat k hk 0 _ rfl
      have HSN : Hid ((X1.take (k + 1)).map (fun s => (false, s)) = (X1.take k).map (fun s => (false, s)) ++ [(false, X1.getD k st0)]) := by
        unfold Hid
        rw [take_snoc X1 st0 k hk, List.map_append]; rfl
      generalize X1.getD k st0 = s at *
      simp only [Nat.mul_one, Nat.add_zero] at q
      have hsz := hbl.size
      have hw9 := HW1.out
      have hw8 := HW1.out
      clear hat hst hn9
      go_wp2_with (at_builtin; refine wpList_app1 _ rfl _ _ 44 rfl 47 _ 2 24 Tryz.underlying44 info_ch rfl (by decide) rfl HO.out.2 _ rfl (by first | rfl | simp) rfl (by simp [Value.oneCell']) (by omega) (by omega) (by first | omega | (simp; omega)) ?_; intro v' w7 ho' hg)
      obtain ⟨A8, c8, rfl⟩ := own_slice ho'
      have HO7 : Hid (OwnCh w7 w.heap.size (.slice A8 ((k + 1)) c8) ((k + 1)) ((X1.take (k + 1)).map (fun s => (false, s)))) := by
        rw [HSN.out]
        exact ⟨by rw [List.length_append, ← HO.out.1]; rfl, by rw [List.flatMap_append]; exact ho'⟩
      have HX7 := Lib.hid (st_kept HX.out HO.out.2 hg)
      have HA7 := Lib.hid (st_kept HA.out HO.out.2 hg)
      have HB7 := Lib.hid (st_kept HB.out HO.out.2 hg)
      have HBL7 := Lib.hid (bP hbl HO.out.2 hg (Nat.le_refl _))
      clear ho' hg
      go_wp2_with fail
      go_roundw
      case rel => exact ⟨k + 1, A8, c8, by omega, by go_num, rfl, HO7.out, HX7.out, HA7.out, HB7.out, HBL7.out⟩
      case measure => simp [intOf]; omega
    obtain rfl : X1.length = k := by omega
    have HO1 : Hid (OwnCh wr w.heap.size (.slice A1 X1.length c1) X1.length (X1.map (fun s => (false, s)))) := by
      have h := HO.out
      rwa [List.take_length] at h
    have HBL := Lib.hid hbl
    clear HO hbl hk hk' HX HAC HBC HBW
    go_wp2_with fail
    refine (KX.out _ HA.out HB.out).mono ?_
    rintro e wD ⟨⟨v, rfl, hov⟩, hbD⟩
    obtain ⟨AX, cX, rfl⟩ := own_slice hov.2
    have HX := Lib.hid (show OwnSt wD w.heap.size (.slice AX X2.length cX) X2.length X2 from ⟨hov.1, row_mono hov.2 HBL.out.size⟩)
    have HAD := Lib.hid (HA.out.below hbD)
    have HBD := Lib.hid (HB.out.below hbD)
    have HOD : Hid (OwnCh wD w.heap.size (.slice A1 X1.length c1) X1.length (X1.map (fun s => (false, s)))) := ⟨HO1.out.1, own_below HO1.out.2 hbD⟩
    have HBWD := Lib.hid (bT HBL.out hbD)
    clear hov hbD KX HA HB HBL HO1
    go_wp2_with fail
    go_loopw [7, 34] (fun v i wr => ∃ (k : Nat) (A1 : Option Addr) (c1 : Nat), k ≤ X2.length ∧ i = .int .i64 k ∧ v = .slice A1 (X1.length + k) c1 ∧ Hid (OwnCh wr w.heap.size (.slice A1 (X1.length + k) c1) (X1.length + k) (X1.map (fun s => (false, s)) ++ (X2.take k).map (fun s => (true, s)))) ∧ Hid (OwnSt wr w.heap.size (.slice AX X2.length cX) X2.length X2) ∧ Hid (OwnSt wr w.heap.size (.slice AA LT.length cA) LT.length LT) ∧ Hid (OwnSt wr w.heap.size (.slice AB LU.length cB) LU.length LU) ∧ Below w.heap.size w wr) (fun _ i _ => X2.length - (intOf i).toNat)
    case atStart => exact ⟨0, A1, c1, Nat.zero_le _, rfl, rfl, (by have h := HOD.out; rw [List.take_zero, List.map_nil, List.append_nil]; exact h), HX.out, HAD.out, HBD.out, HBWD.out⟩
    case round =>
      obtain ⟨k, A1, c1, hk', rfl, rfl, HO, HX, HA, HB, hbl⟩ := hrel
      by_cases hk : k < X2.length
      case pos =>
        obtain ⟨A9, c9, he9, hn9, hst⟩ := own_sl stC 1 st0 stC_len HX.out.2 HX.out.1 (by decide)
        injection he9 with y1 _ y2
        subst y1; subst y2
        obtain ⟨b, off, rfl, hlt, hat⟩ := hst.2.2 (by omega)
        have q := hat k hk 0 _ rfl
        have HSN : Hid ((X2.take (k + 1)).map (fun s => (true, s)) = (X2.take k).map (fun s => (true, s)) ++ [(true, X2.getD k st0)]) := by
          unfold Hid
          rw [take_snoc X2 st0 k hk, List.map_append]; rfl
        generalize X2.getD k st0 = s at *
        simp only [Nat.mul_one, Nat.add_zero] at q
        have hsz := hbl.size
        have hw9 := HW2.out
        have hw8 := HW1.out
        clear hat hst hn9
        go_wp2_with (at_builtin; refine wpList_app1 _ rfl _ _ 44 rfl 47 _ 2 24 Tryz.underlying44 info_ch rfl (by decide) rfl HO.out.2 _ rfl (by first | rfl | simp) rfl (by simp [Value.oneCell']) (by omega) (by omega) (by first | omega | (simp; omega)) ?_; intro v' w7 ho' hg)
        obtain ⟨A8, c8, rfl⟩ := own_slice ho'
        have HO7 : Hid (OwnCh w7 w.heap.size (.slice A8 (X1.length + (k + 1)) c8) (X1.length + (k + 1)) (X1.map (fun s => (false, s)) ++ (X2.take (k + 1)).map (fun s => (true, s)))) := by
          rw [HSN.out, ← List.append_assoc]
          exact ⟨by rw [List.length_append, ← HO.out.1]; rfl, by rw [List.flatMap_append]; exact ho'⟩
        have HX7 := Lib.hid (st_kept HX.out HO.out.2 hg)
        have HA7 := Lib.hid (st_kept HA.out HO.out.2 hg)
        have HB7 := Lib.hid (st_kept HB.out HO.out.2 hg)
        have HBL7 := Lib.hid (bP hbl HO.out.2 hg (Nat.le_refl _))
        clear ho' hg
        go_wp2_with fail
        go_roundw
        case rel => exact ⟨k + 1, A8, c8, by omega, by go_num, rfl, HO7.out, HX7.out, HA7.out, HB7.out, HBL7.out⟩
        case measure => simp [intOf]; omega
      obtain rfl : X2.length = k := by omega
      have HF : Hid (∃ c, OwnCh wr w.heap.size (.slice A1 (diffL t u).length c) (diffL t u).length (diffL t u) ∧ (Value.slice A1 (diffL t u).length c) = .slice A1 (X1.length + X2.length) c1) := by
        have h := HO.out
        rw [List.take_length, ← HDL.out] at h
        have e := h.1
        rw [e] at h
        exact ⟨c1, by rw [← e] at h ⊢; exact h, by rw [← e]⟩
      obtain ⟨c, hf1, hf2⟩ := HF.out
      rw [← hf2]
      clear HO HF hf2
      have HF1 := Lib.hid hf1
      clear hf1
      go_wp2_with fail
      go_ret
      exact ⟨A1, c, ⟨rfl, HF1.out⟩, hbl⟩
--%%
end Go.Proofs.YtbliblhipecgfaaGreatDoor
