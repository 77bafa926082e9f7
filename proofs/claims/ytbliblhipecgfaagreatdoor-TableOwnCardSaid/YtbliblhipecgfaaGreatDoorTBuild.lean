/-
  Contract of the law's builds: the example table is put together, and all is well. Conditions as named.
-/
import Derived.Test.YtbliblhipecgfaaGreatDoorLines
import Derived.Test.YtbliblhipecgfaaGreatDoorM4
import Derived.Test.YtbliblhipecgfaaGreatDoorTBuildP
import Derived.Test.YtbliblhipecgfaaGreatDoorCut
import Derived.Laws.StructEq
namespace Go.Proofs.YtbliblhipecgfaaGreatDoor
set_option linter.unusedVariables false
open Go.RowKit
theorem row_mono {w : World} {base base' size n : Nat} {e : TypeId} {v : Value} {xs : List Value} (h : w.ownsRow base e size v n xs) (hb : base' ≤ base) : w.ownsRow base' e size v n xs := by
  refine ⟨h.1, ?_⟩
  rcases h.2 with h' | ⟨g, cap, cur, h1, h2, h3⟩
  · exact Or.inl h'
  · exact Or.inr ⟨g, cap, cur, h1, Nat.le_trans hb h2, h3⟩
theorem OwnT.mono {w : World} {base base' : Nat} {sch : List (List Bd)} {cts : List Ct} {kds : List Kd} {As Ac Ak : Option Addr} {ns cs nc cc nk ck : Nat} (h : OwnT w base sch cts kds As Ac Ak ns cs nc cc nk ck) (hb : base' ≤ base) : OwnT w base' sch cts kds As Ac Ak ns cs nc cc nk ck := by
  obtain ⟨⟨ls, e1, o1, b1⟩, ⟨lc, e2, o2, b2⟩, o3, b3⟩ := h
  exact ⟨⟨ls, e1, row_mono o1 hb, fun p hp => ⟨(b1 p hp).1, row_mono (b1 p hp).2 hb⟩⟩, ⟨lc, e2, row_mono o2 hb, fun p hp => ⟨⟨(b2 p hp).1.1, row_mono (b2 p hp).1.2 hb⟩, (b2 p hp).2⟩⟩, row_mono o3 hb, b3⟩
theorem OwnT.nil (w : World) (base : Nat) : OwnT w base [] [] [] none none none 0 0 0 0 0 0 :=
  ⟨⟨[], rfl, World.ownsRow_nil _ _ _ _, fun p hp => by simp at hp⟩, ⟨[], rfl, World.ownsRow_nil _ _ _ _, fun p hp => by simp at hp⟩, World.ownsRow_nil _ _ _ _, fun p hp => by simp at hp⟩
--%%
set_option maxHeartbeats 1600000 in
theorem tcontribX_c (cts : List Ct) (As Ac Ak : Option Addr) (ns cs nc cc nk ck : Nat) (lim rnd : Int) (nm : ByteArray) (w : World) (hc : CtSl w Ac nc cts) (r : Int) (hr : Hid (r = nmX Ct.nm cts nm)) :
    Calls Tryz.prog 27 #[.agg #[.slice As ns cs, .slice Ac nc cc, .slice Ak nk ck, .int .i64 lim, .int .i64 rnd], .string nm] w fun e w' => e = .returned (.int .i64 r) ∧ Below w.heap.size w w' := by
  have hb0 := bA (below1 w (.cells #[.slice As ns cs, .slice Ac nc cc, .slice Ak nk ck, .int .i64 lim, .int .i64 rnd] 26)) (.cells #[.string nm] 9)
  have K := Lib.hid (xindex_Contrib cts Ac nc cc (w.heap.size + 1) nm _ (hc.below hb0) (by simp) (by have := (Blk.mk (w.alloc (.cells #[.slice As ns cs, .slice Ac nc cc, .slice Ak nk ck, .int .i64 lim, .int .i64 rnd] 26)) 9 #[.string nm]).cell 0; simp) r hr)
  have HB := Lib.hid hb0
  clear hb0 hc hr
  go_enter Tryz.func27, Tryz.ntmps27
  go_wp2_with fail
  refine K.out.mono ?_
  rintro e w1 ⟨rfl, hb1⟩
  go_wp2_with fail
  go_ret
  exact ⟨rfl, bT HB.out hb1⟩
--%%
theorem trim_c (w : World) : Calls Tryz.prog 30 #[.string linesB, .string ⟨#[10]⟩] w fun e w' => e = .returned (.string trimB) ∧ w' = w := by
  have h := Tryz.strings_TrimSuffix linesB ⟨#[10]⟩ w (by decide +kernel)
  rw [show (⟨#[10]⟩ : ByteArray).data.toList = [10] from rfl, trim_eq] at h
  exact h
theorem splitL_c (w : World) (hm : ML w) : Calls Tryz.prog 29 #[.string trimB, .string ⟨#[10]⟩] w fun e w' => e = .returned (.slice (some ⟨w.heap.size, 0, none⟩) 6 6) ∧ w' = w.alloc (.cells (lnS.map Value.string).toArray 9) := by
  obtain ⟨m, hm⟩ := hm
  have h := Tryz.strings_Split trimB ⟨#[10]⟩ m w (by decide +kernel) hm (by decide)
  rw [count_eq, split_eq] at h
  exact h
--%%
theorem Blk.set5 {w : World} {g : Nat} {t : TypeId} {a b c d e : Value} (h : Blk w g t #[a, b, c, d, e]) (v0 v1 v2 v3 v4 : Value) : Blk (((((w.setCell ⟨g, 0, none⟩ v0).setCell ⟨g, 1, none⟩ v1).setCell ⟨g, 2, none⟩ v2).setCell ⟨g, 3, none⟩ v3).setCell ⟨g, 4, none⟩ v4) g t #[v0, v1, v2, v3, v4] := ((((h.setJ 0 v0).setJ 1 v1).setJ 2 v2).setJ 3 v3).setJ 4 v4
theorem Blk.set5O {w : World} {g g0 : Nat} {t : TypeId} {cs : Array Value} (h : Blk w g t cs) (hne : g ≠ g0) (v0 v1 v2 v3 v4 : Value) : Blk (((((w.setCell ⟨g0, 0, none⟩ v0).setCell ⟨g0, 1, none⟩ v1).setCell ⟨g0, 2, none⟩ v2).setCell ⟨g0, 3, none⟩ v3).setCell ⟨g0, 4, none⟩ v4) g t cs := ((((h.setO hne 0 v0).setO hne 1 v1).setO hne 2 v2).setO hne 3 v3).setO hne 4 v4
theorem ln_cell : ∀ k, k < 6 → (lnS.map Value.string).toArray[k]? = some (.string (lnS.getD k st0)) := fun k hk => by
  rcases (by omega : k = 0 ∨ k = 1 ∨ k = 2 ∨ k = 3 ∨ k = 4 ∨ k = 5) with rfl | rfl | rfl | rfl | rfl | rfl <;> rfl
theorem ln_small : ∀ k, k < 6 → (lnS.getD k st0).size ≤ 1000 := by decide +kernel
theorem bdput_c (k : Nat) (hk : k < 6) (As Ac Ak : Option Addr) (ns cs nc cc nk ck : Nat) (lim rnd : Int) (hlr : lim = (bdSt k).lim ∧ rnd = (bdSt k).rnd) (base : Nat) (A : Option Addr) (n c : Nat) (w : World) (ho : OwnT w base (bdSt k).sch (bdSt k).cts (bdSt k).kds As Ac Ak ns cs nc cc nk ck) (hn : n = (bdW k).length) (hst : StSl w A n (wsB (bdW k))) (hc : n ≤ c) (hm : ML w) (ht : TabS w) :
    Calls Tryz.prog 23 #[.agg #[.slice As ns cs, .slice Ac nc cc, .slice Ak nk ck, .int .i64 lim, .int .i64 rnd], .slice A n c] w fun e w' => (∃ (As Ac Ak : Option Addr) (ns cs nc cc nk ck : Nat) (lim rnd : Int), e = .returned (.tuple #[.agg #[.slice As ns cs, .slice Ac nc cc, .slice Ak nk ck, .int .i64 lim, .int .i64 rnd], .int .i64 0]) ∧ (lim = (bdSt (k + 1)).lim ∧ rnd = (bdSt (k + 1)).rnd) ∧ OwnT w' w.heap.size (bdSt (k + 1)).sch (bdSt (k + 1)).cts (bdSt (k + 1)).kds As Ac Ak ns cs nc cc nk ck) ∧ Below w.heap.size w w' := by
  obtain ⟨rfl, rfl⟩ := hlr
  obtain ⟨l1, l2, l3, l4, l5⟩ := bd_len k (by omega)
  obtain ⟨m1, m2⟩ := bd_size k hk
  obtain ⟨e1, e2, e3⟩ := ho.len
  have v := ho.view
  refine (tput_c (bdSt k) As Ac Ak ns cs nc cc nk ck A n c (wsB (bdW k)) w v.s v.c v.k ⟨by omega, by omega, by omega⟩ ⟨fun j hj => ?_, fun j hj => ?_⟩ hst hc (fun j hj => ?_) (by omega) hm ht).mono ?_
  · have := l4 _ (getD_mem (d := []) (by omega : j < (bdSt k).sch.length)); omega
  · have := l5 _ (getD_mem (d := ct0) (by omega : j < (bdSt k).cts.length)); omega
  · have := m2 _ (getD_mem (d := st0) (by rw [wsB, List.length_map]; omega : j < (wsB (bdW k)).length)); omega
  · rintro e w' ⟨⟨h0, As', cs', Ac', cc', Ak', ck', rfl, ho'⟩ | ⟨h0, _⟩, hb⟩
    · exact ⟨⟨As', Ac', Ak', _, cs', _, cc', _, ck', _, _, rfl, ⟨rfl, rfl⟩, ho'⟩, hb⟩
    · rw [hn] at h0
      exact absurd (bd_put k hk) h0
def jnL : List UInt8 := Lib.join ((tbL T0).map (·.data.toList)) [10]
theorem jn_eq : Lib.join ((tbL T0).map (·.data.toList)) (⟨#[10]⟩ : ByteArray).data.toList = jnL := rfl
theorem jn_len : jnL.length ≤ 1000000 := by
  have h : (mkB jnL ++ ⟨#[10]⟩ : ByteArray).size = linesB.size := by rw [show mkB jnL ++ ⟨#[10]⟩ = linesB from T0_lines]
  rw [ByteArray.size_append, mkB_size] at h
  have : linesB.size ≤ 1000 := by decide +kernel
  omega
theorem jn_lines : (⟨jnL.toArray⟩ ++ ⟨#[10]⟩ : ByteArray).toList = [108, 105, 109, 105, 116, 32, 53, 48, 48, 48, 10, 114, 111, 117, 110, 100, 32, 100, 111, 119, 110, 10, 115, 99, 104, 101, 109, 101, 32, 48, 46, 48, 48, 58, 48, 32, 49, 48, 48, 46, 48, 48, 58, 50, 48, 48, 48, 10, 99, 111, 110, 116, 114, 105, 98, 32, 104, 101, 97, 108, 116, 104, 32, 115, 111, 99, 105, 97, 108, 32, 104, 97, 108, 102, 117, 112, 32, 48, 46, 48, 48, 32, 53, 48, 48, 48, 46, 48, 48, 32, 48, 46, 48, 48, 58, 53, 48, 48, 58, 55, 48, 48, 10, 107, 105, 110, 100, 32, 115, 97, 108, 97, 114, 121, 32, 43, 32, 43, 32, 43, 10, 107, 105, 110, 100, 32, 99, 97, 114, 32, 48, 32, 43, 32, 48, 10] := by
  rw [show (⟨jnL.toArray⟩ ++ ⟨#[10]⟩ : ByteArray) = linesB from T0_lines, ByteArray.toList_eq]; rfl
def BuildsR (w : World) (e : Ending) (w' : World) : Prop :=
  (∃ As cs Ac cc Ak ck, e = .returned (.tuple #[tbV As Ac Ak 1 cs 1 cc 2 ck 5000 1, .bool true]) ∧ TbIn w' T0.sch T0.cts T0.kds As Ac Ak 1 cs 1 cc 2 ck) ∧ Below w.heap.size w w'
set_option maxRecDepth 100000 in
set_option maxHeartbeats 6400000 in
theorem builds_c (w : World) (hm : ML w) (ht : TabS w) (htab : Tab w) : Calls Tryz.prog 11 #[] w (BuildsR w) := by
  have b1 := Blk.mk w 26 #[.slice none 0 0, .slice none 0 0, .slice none 0 0, .int .i64 0, .int .i64 0]
  have b2 := Blk.mk (w.alloc (.cells #[.slice none 0 0, .slice none 0 0, .slice none 0 0, .int .i64 0, .int .i64 0] 26)) 26 #[.slice none 0 0, .slice none 0 0, .slice none 0 0, .int .i64 0, .int .i64 0]
  have hb0 := bA (below1 w (.cells #[.slice none 0 0, .slice none 0 0, .slice none 0 0, .int .i64 0, .int .i64 0] 26)) (.cells #[.slice none 0 0, .slice none 0 0, .slice none 0 0, .int .i64 0, .int .i64 0] 26)
  have KT := Lib.hid trim_c
  have KS := Lib.hid (splitL_c _ (hm.t hb0))
  have HM := Lib.hid hm
  have HT := Lib.hid ht
  have HT2 := Lib.hid htab
  have HB0 := Lib.hid hb0
  clear hm ht htab hb0
  go_enter Tryz.func11, Tryz.ntmps11
  go_wp2_with fail
  refine (KT.out _).mono ?_
  rintro e w' ⟨rfl, rfl⟩
  go_wp2_with fail
  refine KS.out.mono ?_
  rintro e w' ⟨rfl, rfl⟩
  have HBL := Lib.hid (bA HB0.out (.cells (lnS.map Value.string).toArray 9))
  have HB1 := Lib.hid ((b1.alloc (.cells #[.slice none 0 0, .slice none 0 0, .slice none 0 0, .int .i64 0, .int .i64 0] 26)).alloc (.cells (lnS.map Value.string).toArray 9))
  have HB2 := Lib.hid (b2.alloc (.cells (lnS.map Value.string).toArray 9))
  have HB3 := Lib.hid (Blk.mk ((w.alloc (.cells #[.slice none 0 0, .slice none 0 0, .slice none 0 0, .int .i64 0, .int .i64 0] 26)).alloc (.cells #[.slice none 0 0, .slice none 0 0, .slice none 0 0, .int .i64 0, .int .i64 0] 26)) 9 (lnS.map Value.string).toArray)
  clear b1 b2 KS
  have HLV : Hid (∀ k, k < 6 → (lnS.map Value.string).toArray[k]? = some (.string (lnS.getD k st0))) := ln_cell
  generalize (lnS.map Value.string).toArray = LV at *
  go_wp2_with fail
  go_loopw [17] (fun i wr => ∃ (k : Nat) (As Ac Ak : Option Addr) (ns cs nc cc nk ck : Nat) (lim rnd : Int), k ≤ 6 ∧ i = .int .i64 k ∧ Hid (lim = (bdSt k).lim ∧ rnd = (bdSt k).rnd) ∧ Hid (OwnT wr w.heap.size (bdSt k).sch (bdSt k).cts (bdSt k).kds As Ac Ak ns cs nc cc nk ck) ∧ Below w.heap.size w wr ∧ Hid (Blk wr w.heap.size 26 #[.slice none 0 0, .slice none 0 0, .slice none 0 0, .int .i64 0, .int .i64 0]) ∧ Blk wr (w.heap.size + 1) 26 #[.slice As ns cs, .slice Ac nc cc, .slice Ak nk ck, .int .i64 lim, .int .i64 rnd] ∧ Hid (Blk wr (w.heap.size + 1 + 1) 9 LV)) (fun i _ => 6 - (intOf i).toNat)
  case atStart => exact ⟨0, none, none, none, 0, 0, 0, 0, 0, 0, 0, 0, by decide, rfl, ⟨rfl, rfl⟩, OwnT.nil _ _, HBL.out, HB1.out, by simpa using HB2.out, by unfold Hid; simpa using HB3.out⟩
  case round =>
    obtain ⟨k, As, Ac, Ak, ns, cs, nc, cc, nk, ck, lim, rnd, hk', rfl, HLR, HO, hbl, HZ1, z2, HZ3⟩ := hrel
    by_cases hk : k < 6
    case pos =>
      have q := (HZ3.out.cell k).trans (HLV.out k hk)
      have KC := Lib.hid (fun W => cut_c (lnS.getD k st0) W (by have := ln_small k hk; omega) (0, bdW k) (by have := bd_cut k hk; unfold Hid; exact Prod.ext this.symm rfl))
      have HNW : Hid (∃ n, n = (bdW k).length) := ⟨_, rfl⟩
      generalize lnS.getD k st0 = ln at *
      go_wp2_with fail
      refine (KC.out _).mono ?_
      rintro e w1 ⟨hcut | hcut, hb1⟩
      case inr => exact absurd rfl hcut.1
      obtain ⟨_, v, rfl, hov⟩ := hcut
      obtain ⟨A, c, rfl, hnc, hst⟩ := own_sl stC 1 st0 stC_len hov.2 hov.1 (by decide)
      have HOX := HO.out.below hb1
      have z2' := z2.t hb1
      have KP := Lib.hid (bdput_c k hk As Ac Ak ns cs nc cc nk ck lim rnd HLR.out w.heap.size A _ c w1 HOX rfl hst hnc (HM.out.t (bT hbl hb1)) (HT.out.t (bT hbl hb1)))
      have HBX := Lib.hid (bT hbl hb1)
      have HZ1X := Lib.hid (HZ1.out.t hb1)
      have HZ3X := Lib.hid (HZ3.out.t hb1)
      obtain ⟨p0, p1, p2, p3, p4⟩ := z2'.all5
      clear KC HNW hov hnc hst HOX hbl HZ1 HZ3 HO HLR z2 q hb1
      generalize (0, bdW k).2.length = nw at *
      go_wp2_with fail
      refine KP.out.mono ?_
      rintro e w2 ⟨⟨As', Ac', Ak', ns', cs', nc', cc', nk', ck', lim', rnd', rfl, hlr2, ho2⟩, hb2⟩
      have HLR2 := Lib.hid hlr2
      have hB2 := bT HBX.out hb2
      have hsz2 := hB2.size
      have z3 := z2'.t hb2
      have z4 := z3.alloc (.cells #[.slice As' ns' cs', .slice Ac' nc' cc', .slice Ak' nk' ck', .int .i64 lim', .int .i64 rnd'] 26)
      obtain ⟨⟨p0, p1, p2, p3, p4⟩, f0, f1, f2, f3, f4⟩ := z4.a5g
      have ho3 := (ho2.mono (by have := HBX.out.size; exact this : w.heap.size ≤ w1.heap.size)).below (below1 w2 (.cells #[.slice As' ns' cs', .slice Ac' nc' cc', .slice Ak' nk' ck', .int .i64 lim', .int .i64 rnd'] 26))
      have HO9 := Lib.hid (ho3.set5 z4 (.slice As' ns' cs') (.slice Ac' nc' cc') (.slice Ak' nk' ck') (.int .i64 lim') (.int .i64 rnd'))
      have HB9 := Lib.hid (bS5s (bA hB2 (.cells #[.slice As' ns' cs', .slice Ac' nc' cc', .slice Ak' nk' ck', .int .i64 lim', .int .i64 rnd'] 26)) (Nat.le_succ w.heap.size) (.slice As' ns' cs') (.slice Ac' nc' cc') (.slice Ak' nk' ck') (.int .i64 lim') (.int .i64 rnd'))
      have HZ9 := Lib.hid (z4.set5 (.slice As' ns' cs') (.slice Ac' nc' cc') (.slice Ak' nk' ck') (.int .i64 lim') (.int .i64 rnd'))
      have HZ1Y := Lib.hid (((HZ1X.out.t hb2).alloc (.cells #[.slice As' ns' cs', .slice Ac' nc' cc', .slice Ak' nk' ck', .int .i64 lim', .int .i64 rnd'] 26)).set5O (by omega : w.heap.size ≠ w.heap.size + 1) (.slice As' ns' cs') (.slice Ac' nc' cc') (.slice Ak' nk' ck') (.int .i64 lim') (.int .i64 rnd'))
      have HZ3Y := Lib.hid (((HZ3X.out.t hb2).alloc (.cells #[.slice As' ns' cs', .slice Ac' nc' cc', .slice Ak' nk' ck', .int .i64 lim', .int .i64 rnd'] 26)).set5O (by omega : w.heap.size + 1 + 1 ≠ w.heap.size + 1) (.slice As' ns' cs') (.slice Ac' nc' cc') (.slice Ak' nk' ck') (.int .i64 lim') (.int .i64 rnd'))
      clear hlr2 hb2 hB2 z3 z4 ho2 ho3 KP HBX HZ1X HZ3X z2'
      go_wp2_with fail
      go_roundw
      case rel => exact ⟨k + 1, As', Ac', Ak', ns', cs', nc', cc', nk', ck', lim', rnd', by omega, by go_num, HLR2.out, HO9.out, HB9.out, HZ1Y.out, HZ9.out, HZ3Y.out⟩
      case measure => simp [intOf]; omega
    obtain rfl : k = 6 := by omega
    obtain rfl : lim = 5000 := HLR.out.1.trans (by rw [bd_end]; rfl)
    obtain rfl : rnd = 1 := HLR.out.2.trans (by rw [bd_end]; rfl)
    have ho := HO.out
    rw [bd_end] at ho
    obtain ⟨e1, e2, e3⟩ := ho.len
    obtain rfl : ns = 1 := e1
    obtain rfl : nc = 1 := e2
    obtain rfl : nk = 2 := e3
    have HV := Lib.hid ho
    have KK : Hid (Calls Tryz.prog 26 #[.agg #[.slice As 1 cs, .slice Ac 1 cc, .slice Ak 2 ck, .int .i64 5000, .int .i64 1], .string ⟨#[99, 97, 114]⟩] wr fun e w' => e = .returned (.tuple #[.agg #[.string ⟨#[99, 97, 114]⟩, .int .i64 0, .int .i64 1, .int .i64 0], .int .i64 0]) ∧ Below wr.heap.size wr w') := kind_c T0.kds As Ac Ak 1 cs 1 cc 2 ck 5000 1 ⟨#[99, 97, 114]⟩ wr ho.view.k ⟨⟨#[99, 97, 114]⟩, 0, 1, 0⟩ 0 (by unfold Hid; rfl) (by unfold Hid; decide +kernel)
    have KMo : Hid (∀ W, TabS W → Calls Tryz.prog 17 #[.string ⟨#[104, 97, 108, 102, 101, 118, 101, 110]⟩] W fun e w' => e = .returned (.tuple #[.int .i64 5, .int .i64 0]) ∧ Below W.heap.size W w') := fun W h => by
      have := tmode_c ⟨#[104, 97, 108, 102, 101, 118, 101, 110]⟩ W h
      rwa [show modeV ⟨#[104, 97, 108, 102, 101, 118, 101, 110]⟩ = 5 by decide +kernel, show modeE ⟨#[104, 97, 108, 102, 101, 118, 101, 110]⟩ = 0 by decide +kernel] at this
    have KCh : Hid (∀ W, Below wr.heap.size wr W → Calls Tryz.prog 14 #[.agg #[.slice As 1 cs, .slice Ac 1 cc, .slice Ak 2 ck, .int .i64 5000, .int .i64 1]] W fun e w' => e = .returned (.int .i64 0) ∧ Below W.heap.size W w') := fun W h => by
      have v := (HV.out.below h).view
      exact xcheck_c T0.sch T0.cts T0.kds As Ac Ak 1 cs 1 cc 2 ck 5000 1 W v.s v.c v.cc v.k v.ck 0 (by unfold Hid; exact T0_ok.symm)
    have KLi : Hid (∀ W, Below wr.heap.size wr W → Calls Tryz.prog 15 #[.agg #[.slice As 1 cs, .slice Ac 1 cc, .slice Ak 2 ck, .int .i64 5000, .int .i64 1]] W fun e w' => (∃ A n c, e = .returned (.slice A n c) ∧ StSl w' A n (tbL T0) ∧ n ≤ c ∧ n = 6) ∧ Below W.heap.size W w') := fun W h => by
      have v := (HV.out.below h).view
      refine (tlines_c T0 As Ac Ak 1 cs 1 cc 2 ck W v (HT2.out.t (bT hbl h)) (HT.out.t (bT hbl h))).mono ?_
      rintro e w' ⟨⟨_, v, rfl, hov⟩ | ⟨hne, _⟩, hb⟩
      · obtain ⟨A, c, rfl, hnc, hst⟩ := own_sl stC 1 st0 stC_len hov.2 hov.1 (by decide)
        exact ⟨⟨A, _, c, rfl, hst, hnc, rfl⟩, hb⟩
      · exact absurd T0_ok hne
    have KC1 : Hid (∀ W, Below wr.heap.size wr W → Calls Tryz.prog 27 #[.agg #[.slice As 1 cs, .slice Ac 1 cc, .slice Ak 2 ck, .int .i64 5000, .int .i64 1], .string ⟨#[104, 101, 97, 108, 116, 104]⟩] W fun e w' => e = .returned (.int .i64 0) ∧ Below W.heap.size W w') := fun W h => by
      have v := (HV.out.below h).view
      exact tcontribX_c T0.cts As Ac Ak 1 cs 1 cc 2 ck 5000 1 _ W v.c 0 (by unfold Hid; decide +kernel)
    have KC2 : Hid (∀ W, Below wr.heap.size wr W → Calls Tryz.prog 27 #[.agg #[.slice As 1 cs, .slice Ac 1 cc, .slice Ak 2 ck, .int .i64 5000, .int .i64 1], .string ⟨#[120]⟩] W fun e w' => e = .returned (.int .i64 (-1)) ∧ Below W.heap.size W w') := fun W h => by
      have v := (HV.out.below h).view
      exact tcontribX_c T0.cts As Ac Ak 1 cs 1 cc 2 ck 5000 1 _ W v.c (-1) (by unfold Hid; decide +kernel)
    have KN1 : Hid (∀ W, TabS W → Calls Tryz.prog 18 #[.int .i64 1] W fun e w' => e = .returned (.string ⟨#[100, 111, 119, 110]⟩) ∧ Below W.heap.size W w') := fun W h => by
      have := tmodeName_c 1 W h
      rwa [show modeN 1 = ⟨#[100, 111, 119, 110]⟩ by decide +kernel] at this
    have HZ2 := Lib.hid z2
    have HBR := Lib.hid hbl
    obtain ⟨p0, p1, p2, p3, p4⟩ := z2.all5
    clear ho HO HLR hk z2 hbl
    go_wp2_with fail
    refine KK.out.mono ?_
    rintro e wk ⟨rfl, hbk⟩
    have HBK := Lib.hid (bA hbk (.cells #[.string ⟨#[99, 97, 114]⟩, .int .i64 0, .int .i64 1, .int .i64 0] 60))
    have HTK := Lib.hid (HT.out.t (bT HBR.out HBK.out))
    have HBlk := Lib.hid (Blk.mk wk 60 #[.string ⟨#[99, 97, 114]⟩, .int .i64 0, .int .i64 1, .int .i64 0])
    clear hbk p0 p1 p2 p3 p4 KK
    go_wp2_with fail
    refine (KMo.out _ HTK.out).mono ?_
    rintro e wm ⟨rfl, hbm⟩
    have HBM := Lib.hid (bT HBK.out hbm)
    have HKM := Lib.hid (HBlk.out.t hbm)
    obtain ⟨p0, p1, p2, p3, p4⟩ := (HZ2.out.t HBM.out).all5
    clear hbm KMo
    go_wp2_with fail
    refine (KCh.out _ HBM.out).mono ?_
    rintro e wc ⟨rfl, hbc⟩
    have HBC := Lib.hid (bT HBM.out hbc)
    have HKC := Lib.hid (HKM.out.t hbc)
    clear hbc p0 p1 p2 p3 p4 KCh
    obtain ⟨p0, p1, p2, p3, p4⟩ := (HZ2.out.t HBC.out).all5
    go_wp2_with fail
    refine (KLi.out _ HBC.out).mono ?_
    rintro e wl ⟨⟨A, n, c, rfl, hst, hnc, rfl⟩, hbc⟩
    have KJ := Lib.hid (join_c ⟨#[10]⟩ A 6 c (tbL T0) wl hst hnc (by decide) (by decide) jnL jn_eq jn_len)
    have HBL2 := Lib.hid (bT HBC.out hbc)
    have HKL := Lib.hid (HKC.out.t hbc)
    clear hbc p0 p1 p2 p3 p4 KLi hst hnc
    go_wp2_with fail
    refine KJ.out.mono ?_
    rintro e wj ⟨rfl, hbc⟩
    have HBJ := Lib.hid (bT HBL2.out hbc)
    have HKJ := Lib.hid (HKL.out.t hbc)
    clear hbc KJ
    obtain ⟨p0, p1, p2, p3, p4⟩ := (HZ2.out.t HBJ.out).all5
    obtain ⟨k0, k1, k2, k3⟩ := HKJ.out.all4
    have hjj := jn_lines
    have hjl := jn_len
    generalize jnL = JL at *
    go_wp2_with fail
    refine (KC1.out _ HBJ.out).mono ?_
    rintro e wx ⟨rfl, hbc⟩
    have HBX := Lib.hid (bT HBJ.out hbc)
    clear hbc p0 p1 p2 p3 p4 k0 k1 k2 k3 KC1 hjj
    obtain ⟨p0, p1, p2, p3, p4⟩ := (HZ2.out.t HBX.out).all5
    go_wp2_with fail
    refine (KC2.out _ HBX.out).mono ?_
    rintro e wy ⟨rfl, hbc⟩
    have HBY := Lib.hid (bT HBX.out hbc)
    clear hbc p0 p1 p2 p3 p4 KC2
    go_wp2_with fail
    refine (KN1.out _ (HT.out.t (bT HBR.out HBY.out))).mono ?_
    rintro e wn ⟨rfl, hbc⟩
    have HBN := Lib.hid (bT HBY.out hbc)
    clear hbc KN1
    have z2n := HZ2.out.t HBN.out
    have z1n := HZ1.out.t HBN.out
    obtain ⟨p0, p1, p2, p3, p4⟩ := z2n.all5
    obtain ⟨⟨r0, r1, r2, r3, r4⟩, f0, f1, f2, f3, f4⟩ := z1n.a5g
    have HOE := Lib.hid ((HV.out.below HBN.out).set5 z1n (.slice As 1 cs) (.slice Ac 1 cc) (.slice Ak 2 ck) (.int .i64 5000) (.int .i64 1))
    have HBE := Lib.hid (bS5s (bT HBR.out HBN.out) (Nat.le_refl w.heap.size) (.slice As 1 cs) (.slice Ac 1 cc) (.slice Ak 2 ck) (.int .i64 5000) (.int .i64 1))
    have HZE := Lib.hid (z1n.set5 (.slice As 1 cs) (.slice Ac 1 cc) (.slice Ak 2 ck) (.int .i64 5000) (.int .i64 1))
    clear z2n z1n
    go_wp2_with fail
    obtain ⟨s0, s1, s2, s3, s4⟩ := HZE.out.all5
    refine bodyPost_ret (v := .tuple #[.agg #[.slice As 1 cs, .slice Ac 1 cc, .slice Ak 2 ck, .int .i64 5000, .int .i64 1], .bool true]) (by simp [results, Tryz.results11, go_sem, s0, s1, s2, s3, s4]) rfl ?_
    exact ⟨⟨As, cs, Ac, cc, Ak, ck, rfl, HOE.out.view⟩, HBE.out⟩
--%%
end Go.Proofs.YtbliblhipecgfaaGreatDoor
