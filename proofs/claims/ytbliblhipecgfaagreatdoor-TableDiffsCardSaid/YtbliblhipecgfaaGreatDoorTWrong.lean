/-
  Contracts of the law's name and wrong. Conditions as named.
-/
import Derived.Test.YtbliblhipecgfaaGreatDoorTabX2
import Derived.Test.YtbliblhipecgfaaGreatDoorM0
import Derived.Test.YtbliblhipecgfaaGreatDoorRef5b
namespace Go.Proofs.YtbliblhipecgfaaGreatDoor
set_option linter.unusedVariables false
open Go.RowKit
def nmE (s : ByteArray) (L : List ByteArray) : Int := if nameB s = false then 5 else if 0 ≤ nmX (fun x => x) L s then 4 else 0
theorem nmX_map {α : Type} (f : α → ByteArray) (l : List α) (nm : ByteArray) : nmX (fun x => x) (l.map f) nm = nmX f l nm := by
  unfold nmX
  rw [List.findIdx?_map]
  rfl
theorem ctE_name {pre : List Ct} {x : Ct} {v : Int} (h : nmE x.nm (pre.map Ct.nm) = v) (h0 : v ≠ 0) : ctE pre x = v := by
  unfold nmE at h
  rw [nmX_map] at h
  unfold ctE
  by_cases a : nameB x.nm = false
  · rw [if_pos a] at h; rw [if_pos a]; exact h
  · rw [if_neg a] at h
    rw [if_neg a]
    by_cases b : 0 ≤ nmX Ct.nm pre x.nm
    · rw [if_pos b] at h; rw [if_pos b]; exact h
    · rw [if_neg b] at h; exact absurd h.symm h0
theorem nmE_zero {s : ByteArray} {L : List ByteArray} (h : nmE s L = 0) : ¬ nameB s = false ∧ ¬ 0 ≤ nmX (fun x => x) L s := by
  unfold nmE at h
  by_cases a : nameB s = false
  · rw [if_pos a] at h; cases h
  · rw [if_neg a] at h
    by_cases b : 0 ≤ nmX (fun x => x) L s
    · rw [if_pos b] at h; cases h
    · exact ⟨a, b⟩
theorem ctE_range {pre : List Ct} {x : Ct} (h : nmE x.nm (pre.map Ct.nm) = 0) (hr : x.base < 1 ∨ 2 < x.base ∨ x.rd < 1 ∨ 6 < x.rd ∨ x.pc < 0 ∨ x.yc < 0 ∨ 100000000000 < x.pc ∨ 100000000000 < x.yc) : ctE pre x = 1 := by
  obtain ⟨a, b⟩ := nmE_zero h
  rw [nmX_map] at b
  unfold ctE
  rw [if_neg a, if_neg b]
  split
  · rfl
  split
  · rfl
  rename_i h1 h2
  have h3 := modeB_iff.1 (by simpa using h2)
  split
  · rfl
  split
  · rfl
  split
  · rfl
  split
  · rfl
  · omega
theorem ctE_bands {pre : List Ct} {x : Ct} (h : nmE x.nm (pre.map Ct.nm) = 0) (h1 : ¬ x.base < 1) (h2 : ¬ 2 < x.base) (h3 : ¬ x.rd < 1) (h4 : ¬ 6 < x.rd) (h5 : ¬ x.pc < 0) (h6 : ¬ x.yc < 0) (h7 : ¬ 100000000000 < x.pc) (h8 : ¬ 100000000000 < x.yc) : ctE pre x = bandsErr x.bands := by
  obtain ⟨a, b⟩ := nmE_zero h
  rw [nmX_map] at b
  have hm : modeB x.rd = true := modeB_iff.2 ⟨by omega, by omega⟩
  unfold ctE
  rw [if_neg a, if_neg b, if_neg (by omega), if_neg (by rw [hm]; decide), if_neg h5, if_neg h7, if_neg h6, if_neg h8]
theorem kdE_name {pre : List Kd} {x : Kd} {v : Int} (h : nmE x.nm (pre.map Kd.nm) = v) (h0 : v ≠ 0) : kdE1 pre x = v := by
  unfold nmE at h
  rw [nmX_map] at h
  unfold kdE1
  by_cases a : nameB x.nm = false
  · rw [if_pos a] at h; rw [if_pos a]; exact h
  · rw [if_neg a] at h
    rw [if_neg a]
    by_cases b : 0 ≤ nmX Kd.nm pre x.nm
    · rw [if_pos b] at h; rw [if_pos b]; exact h
    · rw [if_neg b] at h; exact absurd h.symm h0
theorem kdE_range {pre : List Kd} {x : Kd} (h : nmE x.nm (pre.map Kd.nm) = 0) : kdE1 pre x = if (x.c < -1 ∨ 1 < x.c) ∨ (x.t < -1 ∨ 1 < x.t) ∨ (x.s < -1 ∨ 1 < x.s) then 1 else 0 := by
  obtain ⟨a, b⟩ := nmE_zero h
  rw [nmX_map] at b
  unfold kdE1
  rw [if_neg a, if_neg b]
  simp only [decide_eq_false_iff_not]
  split
  · rw [if_pos (by omega)]
  split
  · rw [if_pos (by omega)]
  split
  · rw [if_pos (by omega)]
  · rw [if_neg (by omega)]
theorem st_snoc {α : Type} (f : α → ByteArray) (l : List α) (d : α) (k : Nat) (h : k < l.length) : (l.take (k + 1)).map f = (l.take k).map f ++ [f (l.getD k d)] := by
  rw [List.take_add_one, List.getElem?_eq_getElem h, getD_get h, List.map_append]; rfl
--%%
set_option maxHeartbeats 1600000 in
theorem tname_c (s : ByteArray) (A : Option Addr) (n c : Nat) (L : List ByteArray) (w : World) (hs : s.size ≤ 9223372036854775807) (hl : StSl w A n L) (r : Int) (hr : Hid (r = nmE s L)) :
    Calls Tryz.prog 33 #[.string s, .slice A n c] w fun e w' => e = .returned (.int .i64 r) ∧ Below w.heap.size w w' := by
  have hn9 := hl.2.1
  cases hnm : nameB s
  · have HE : Hid (r = 5) := hr.out.trans (by unfold nmE; rw [if_pos hnm])
    go_enter Tryz.func33, Tryz.ntmps33
    go_wp2_with fail
    refine (name_c s _ hs).mono ?_
    rintro e w' ⟨rfl, rfl⟩
    go_wp2_with fail
    go_ret
    exact ⟨by rw [HE.out] <;> rfl, b0 _⟩
  have HL := Lib.hid hl
  have HN : Hid (n = L.length) := hl.1
  have HF : Hid (r = if 0 ≤ nmX (fun x => x) L s then 4 else 0) := hr.out.trans (by unfold nmE; rw [if_neg (by rw [hnm]; decide)])
  have KN : Hid (∀ W, Calls Tryz.prog 67 #[.string s] W fun e w' => e = .returned (.bool true) ∧ W = w') := fun W => by rw [← hnm]; exact name_c s W hs
  clear hl hr hnm
  go_enter Tryz.func33, Tryz.ntmps33
  go_wp2_with fail
  refine (KN.out _).mono ?_
  rintro e w' ⟨rfl, rfl⟩
  go_wp2_with fail
  go_loopw [12] (fun i wr => ∃ k : Nat, k ≤ n ∧ i = .int .i64 k ∧ Hid (∀ j, j < k → L.getD j st0 ≠ s) ∧ Below w.heap.size w wr) (fun i _ => n - (intOf i).toNat)
  case atStart => exact ⟨0, Nat.zero_le _, rfl, fun j hj => absurd hj (Nat.not_lt_zero _), b0 _⟩
  case round =>
    obtain ⟨k, hk', rfl, HJ, hbl⟩ := hrel
    by_cases hk : k < n
    case neg =>
      have HE : Hid (r = 0) := HF.out.trans (if_neg (by rw [nmX_no (d := st0) (fun j hj => HJ.out j (by have := HN.out; omega))]; decide))
      go_wp2_with fail
      go_ret
      exact ⟨by rw [HE.out] <;> rfl, hbl⟩
    obtain ⟨b, off, rfl, hlt, hat⟩ := (HL.out.below hbl).2.2 (by omega)
    have hc := hat k hk 0 _ rfl
    have HY : Hid (L.getD k st0 = s → r = 4) := fun h => HF.out.trans (if_pos (by rw [nmX_at (f := fun x => x) (d := st0) (by have := HN.out; omega) h HJ.out]; omega))
    have HZ : Hid (L.getD k st0 ≠ s → ∀ j, j < k + 1 → L.getD j st0 ≠ s) := fun h j hj => by
      rcases (by omega : j = k ∨ j < k) with rfl | hj
      · exact h
      · exact HJ.out j hj
    generalize L.getD k st0 = x at *
    simp only [Nat.mul_one, Nat.add_zero] at hc
    clear hat
    by_cases hy : x = s
    · have v1 : (x.toList == s.toList) = true := by rw [hy]; simp
      have HE := Lib.hid (HY.out hy)
      clear hy HY HZ
      go_wp2_with fail
      go_ret
      exact ⟨by rw [HE.out] <;> rfl, hbl⟩
    · have v1 := str_neqk hy
      have HE := Lib.hid (HZ.out hy)
      clear hy HY HZ
      go_wp2_with fail
      go_roundw
      case rel => exact ⟨k + 1, by omega, by go_num, HE.out, hbl⟩
      case measure => simp [intOf]; omega
--%%
set_option maxRecDepth 100000 in
set_option maxHeartbeats 12800000 in
theorem wrong_c (sch : List (List Bd)) (cts : List Ct) (kds : List Kd) (As Ac Ak : Option Addr) (ns cs nc cc nk ck : Nat) (lim rnd : Int) (w : World) (hs : ScSl w As ns sch) (hc : CtSl w Ac nc cts) (hk : KdSl w Ak nk kds) (r : Int) (hr : Hid (r = tbE ⟨sch, cts, kds, lim, rnd⟩)) :
    Calls Tryz.prog 13 #[.agg #[.slice As ns cs, .slice Ac nc cc, .slice Ak nk ck, .int .i64 lim, .int .i64 rnd]] w fun e w' => e = .returned (.int .i64 r) ∧ Below w.heap.size w w' := by
  have z := Blk.mk w 26 #[.slice As ns cs, .slice Ac nc cc, .slice Ak nk ck, .int .i64 lim, .int .i64 rnd]
  have hb0 := below1 w (.cells #[.slice As ns cs, .slice Ac nc cc, .slice Ak nk ck, .int .i64 lim, .int .i64 rnd] 26)
  have HB0 := Lib.hid hb0
  have HZ0 := Lib.hid z
  obtain ⟨z0, z1, z2, z3, z4⟩ := z.all5
  have HS := Lib.hid hs
  have HC := Lib.hid hc
  have HK := Lib.hid hk
  have n9 := hs.2.1
  have m9 := hc.2.1
  have q9 := hk.2.1
  have HNS : Hid (ns = sch.length) := hs.1
  have HNC : Hid (nc = cts.length) := hc.1
  have HNK : Hid (nk = kds.length) := hk.1
  clear hs hc hk z hb0
  by_cases h1 : lim < 0
  · have v1 : decide (lim < 0) = true := by simpa using h1
    have HE : Hid (r = 50) := hr.out.trans (by unfold tbE; rw [if_pos (rateB_not.2 (by dsimp only; omega))])
    clear h1
    go_enter Tryz.func13, Tryz.ntmps13
    go_wp2_with fail
    go_ret
    exact ⟨by rw [HE.out] <;> rfl, HB0.out⟩
  have v1 : decide (lim < 0) = false := by simpa using h1
  by_cases h2 : 10000 < lim
  · have v2 : decide (10000 < lim) = true := by simpa using h2
    have HE : Hid (r = 50) := hr.out.trans (by unfold tbE; rw [if_pos (rateB_not.2 (by dsimp only; omega))])
    clear h2
    go_enter Tryz.func13, Tryz.ntmps13
    go_wp2_with fail
    go_ret
    exact ⟨by rw [HE.out] <;> rfl, HB0.out⟩
  have v2 : decide (10000 < lim) = false := by simpa using h2
  have HR1 : Hid (¬ rateB lim = false) := by unfold Hid; rw [rateB_not]; omega
  by_cases h3 : rnd < 1
  · have v3 : decide (rnd < 1) = true := by simpa using h3
    have HE : Hid (r = 1) := hr.out.trans (by unfold tbE; rw [if_neg HR1.out, if_pos (modeB_not.2 (by dsimp only; omega))])
    clear h3
    go_enter Tryz.func13, Tryz.ntmps13
    go_wp2_with fail
    go_ret
    exact ⟨by rw [HE.out] <;> rfl, HB0.out⟩
  have v3 : decide (rnd < 1) = false := by simpa using h3
  by_cases h4 : 6 < rnd
  · have v4 : decide (6 < rnd) = true := by simpa using h4
    have HE : Hid (r = 1) := hr.out.trans (by unfold tbE; rw [if_neg HR1.out, if_pos (modeB_not.2 (by dsimp only; omega))])
    clear h4
    go_enter Tryz.func13, Tryz.ntmps13
    go_wp2_with fail
    go_ret
    exact ⟨by rw [HE.out] <;> rfl, HB0.out⟩
  have v4 : decide (6 < rnd) = false := by simpa using h4
  have HR2 : Hid (¬ modeB rnd = false) := by unfold Hid; rw [modeB_not]; omega
  have HF : Hid (r = if scsE sch ≠ 0 then scsE sch else if ctsE cts ≠ 0 then ctsE cts else kdsE kds) := hr.out.trans (by unfold tbE; rw [if_neg HR1.out, if_neg HR2.out])
  have HFS : Hid (∀ v, scsE sch = v → v ≠ 0 → r = v) := fun v h h0 => HF.out.trans (by rw [if_pos (by rw [h]; exact h0), h])
  by_cases h5 : ns < 1
  · have v5 : decide ((ns : Int) < 1) = true := by simp; omega
    have HE : Hid (r = 2) := HFS.out 2 (by have := HNS.out; unfold scsE; rw [if_pos (by omega)]) (by decide)
    clear h5
    go_enter Tryz.func13, Tryz.ntmps13
    go_wp2_with fail
    go_ret
    exact ⟨by rw [HE.out] <;> rfl, HB0.out⟩
  have v5 : decide ((ns : Int) < 1) = false := by simp; omega
  by_cases h6 : 8 < ns
  · have v6 : decide ((8 : Int) < (ns : Int)) = true := by simp; omega
    have HE : Hid (r = 2) := HFS.out 2 (by have := HNS.out; unfold scsE; rw [if_pos (by omega)]) (by decide)
    clear h6
    go_enter Tryz.func13, Tryz.ntmps13
    go_wp2_with fail
    go_ret
    exact ⟨by rw [HE.out] <;> rfl, HB0.out⟩
  have v6 : decide ((8 : Int) < (ns : Int)) = false := by simp; omega
  have HSC : Hid (scsE sch = firstNZ (scsF sch) ns) := by have := HNS.out; unfold Hid scsE; rw [if_neg (by omega), HNS.out]
  clear h1 h2 h3 h4 hr
  go_enter Tryz.func13, Tryz.ntmps13
  go_wp2_with fail
  go_loopw [46] (fun i wr => ∃ k : Nat, k ≤ ns ∧ i = .int .i64 k ∧ Hid (firstNZ (scsF sch) k = 0) ∧ Below w.heap.size w wr ∧ Hid (Blk wr w.heap.size 26 #[.slice As ns cs, .slice Ac nc cc, .slice Ak nk ck, .int .i64 lim, .int .i64 rnd])) (fun i _ => ns - (intOf i).toNat)
  case atStart => exact ⟨0, Nat.zero_le _, rfl, rfl, HB0.out, HZ0.out⟩
  case round =>
    obtain ⟨k, hk', rfl, hok, hbl, HZ⟩ := hrel
    clear z0 z1 z2 z3 z4
    by_cases hk : k < ns
    case pos =>
      obtain ⟨wo, rfl⟩ : ∃ wo : World, wo = wr := ⟨_, rfl⟩
      obtain ⟨b, off, rfl, hlt, hat⟩ := (HS.out.below hbl).2.2 (by omega)
      obtain ⟨A', n', c', c0, hbs⟩ := hat k hk
      simp only [Nat.mul_one] at c0
      have HST : Hid (∀ v, scE1 (sch.getD k []) = v → v ≠ 0 → r = v) := fun v h h0 => HFS.out v (HSC.out.trans ((firstNZ_stop _ k _ hok.out (by unfold scsF; rw [h]; exact h0) hk).trans h)) h0
      have HGO : Hid (scE1 (sch.getD k []) = 0 → firstNZ (scsF sch) (k + 1) = 0) := fun h => firstNZ_step _ _ hok.out h
      clear hat
      generalize sch.getD k [] = x at *
      obtain ⟨r2, hr2⟩ : ∃ r2, r2 = bandsErr x := ⟨_, rfl⟩
      have HRR := Lib.hid hr2
      clear hr2
      have KB := Lib.hid (fun w h => rcheck_c x A' n' c' w h r2 HRR)
      by_cases hr0 : r2 = 0
      case neg =>
        have tr : (r2 != 0) = true := by simpa using hr0
        have HE : Hid (r = r2) := HST.out r2 (by unfold scE1; rw [if_pos (by rw [← HRR.out]; exact hr0), HRR.out]) hr0
        clear hr0
        go_wp2_with fail
        refine (KB.out _ hbs).mono ?_
        rintro e w2 ⟨rfl, hb2⟩
        go_wp2_with fail
        go_ret
        exact ⟨by rw [HE.out] <;> rfl, bT hbl hb2⟩
      subst hr0
      go_wp2_with fail
      refine (KB.out _ hbs).mono ?_
      rintro e w2 ⟨rfl, hb2⟩
      have b2 : Below w.heap.size w w2 := bT hbl hb2
      have HZ2 := Lib.hid (HZ.out.t hb2)
      have hbs2 := hbs.below hb2
      have hm' := hbs2.2.1
      have HN' := Lib.hid hbs2.1
      have HB2 := Lib.hid hbs2
      clear hbs2
      go_wp2_with fail
      go_loopw [57] (fun i wi => ∃ j : Nat, j ≤ n' ∧ i = .int .i64 j ∧ Hid (∀ i, i < j → (x.getD i bd0).e = 0) ∧ Below w2.heap.size w2 wi) (fun i _ => n' - (intOf i).toNat)
      case atStart => exact ⟨0, Nat.zero_le _, rfl, fun j hj => absurd hj (Nat.not_lt_zero _), Below.refl _ _⟩
      case round =>
        obtain ⟨j, hj', rfl, hoj, hbj⟩ := hrel
        have bj : Below w.heap.size w wr := bT b2 hbj
        by_cases hj : j < n'
        case neg =>
          have HG := Lib.hid (HGO.out (by
            unfold scE1
            rw [if_neg (by rw [← HRR.out]; simp), if_neg]
            rintro ⟨i, hi, h⟩
            exact h (hoj.out i (by have := HN'.out; omega))))
          have HZJ := Lib.hid (HZ2.out.t hbj)
          go_wp2_with fail
          go_roundw
          case rel => exact ⟨k + 1, by omega, by go_num, HG.out, bj, HZJ.out⟩
          case measure => simp [intOf]; omega
        obtain ⟨b', off', rfl, hlt', hat'⟩ := (HB2.out.below hbj).2.2 (by omega)
        obtain ⟨d0, d1, d2⟩ := hat' j (by have e := HN'.out; omega)
        clear hat'
        have hsj := hbj.size
        by_cases he : (x.getD j bd0).e = 0
        · have HE := Lib.hid he
          generalize (x.getD j bd0).f = xf at *
          generalize (x.getD j bd0).r = xr at *
          rw [he] at d2
          clear he
          go_wp2_with fail
          go_roundw
          case rel => exact ⟨j + 1, by omega, by go_num, fun i hi => by
            rcases (by omega : i = j ∨ i < j) with rfl | hi
            · exact HE.out
            · exact hoj.out i hi, hbj.alloc hsj _⟩
          case measure => simp [intOf]; omega
        · have te : ((x.getD j bd0).e != 0) = true := by simpa using he
          have HE : Hid (r = 50) := HST.out 50 (by unfold scE1; rw [if_neg (by rw [← HRR.out]; simp), if_pos ⟨j, by have := HN'.out; omega, he⟩]) (by decide)
          clear he
          generalize (x.getD j bd0).f = xf at *
          generalize (x.getD j bd0).r = xr at *
          generalize (x.getD j bd0).e = xe at *
          go_wp2_with fail
          go_ret
          exact ⟨by rw [HE.out] <;> rfl, bj.alloc bj.size _⟩
    obtain rfl : ns = k := by omega
    have HS0 : Hid (scsE sch = 0) := HSC.out.trans hok.out
    have HF2 : Hid (r = if ctsE cts ≠ 0 then ctsE cts else kdsE kds) := HF.out.trans (if_neg (fun h => h HS0.out))
    have HFC : Hid (∀ v, ctsE cts = v → v ≠ 0 → r = v) := fun v h h0 => HF2.out.trans (by rw [if_pos (by rw [h]; exact h0), h])
    obtain ⟨z0, z1, z2, z3, z4⟩ := HZ.out.all5
    clear HF HFS HSC hok hk hk'
    by_cases h7 : 6 < nc
    · have v7 : decide ((6 : Int) < (nc : Int)) = true := by simp; omega
      have HE : Hid (r = 2) := HFC.out 2 (by have := HNC.out; unfold ctsE; rw [if_pos (by omega)]) (by decide)
      clear h7
      go_wp2_with fail
      go_ret
      exact ⟨by rw [HE.out] <;> rfl, hbl⟩
    have v7 : decide ((6 : Int) < (nc : Int)) = false := by simp; omega
    have HSC : Hid (ctsE cts = firstNZ (ctsF cts) nc) := by have := HNC.out; unfold Hid ctsE; rw [if_neg (by omega), HNC.out]
    have HBX := Lib.hid hbl
    clear hbl
    go_wp2_with fail
    clear z0 z1 z2 z3 z4
    go_loopw [8, 73] (fun v i wr => ∃ (k : Nat) (A1 : Option Addr) (c1 : Nat), k ≤ nc ∧ i = .int .i64 k ∧ v = .slice A1 k c1 ∧ Hid (OwnSt wr w.heap.size (.slice A1 k c1) k ((cts.take k).map Ct.nm)) ∧ Hid (firstNZ (ctsF cts) k = 0) ∧ Below w.heap.size w wr ∧ Hid (Blk wr w.heap.size 26 #[.slice As ns cs, .slice Ac nc cc, .slice Ak nk ck, .int .i64 lim, .int .i64 rnd])) (fun _ i _ => nc - (intOf i).toNat)
    case atStart => exact ⟨0, none, 0, Nat.zero_le _, rfl, rfl, ⟨rfl, World.ownsRow_nil _ _ _ _⟩, rfl, HBX.out, HZ.out⟩
    clear HZ HBX
    case round =>
      obtain ⟨k, A1, c1, hk', rfl, rfl, HO, hok, hbl, HZ⟩ := hrel
      by_cases hk : k < nc
      case pos =>
        obtain ⟨b, off, rfl, hlt, hat⟩ := (HC.out.below hbl).2.2 (by omega)
        obtain ⟨c0, hsz, c1', ⟨A', n', c', c2, hbs⟩, c3, c4, c5⟩ := hat k hk
        have HST : Hid (∀ v, ctE (cts.take k) (cts.getD k ct0) = v → v ≠ 0 → r = v) := fun v h h0 => HFC.out v (HSC.out.trans ((firstNZ_stop _ k _ hok.out (by unfold ctsF; rw [h]; exact h0) hk).trans h)) h0
        have HGO : Hid (ctE (cts.take k) (cts.getD k ct0) = 0 → firstNZ (ctsF cts) (k + 1) = 0) := fun h => firstNZ_step _ _ hok.out h
        have HSN := Lib.hid (st_snoc Ct.nm cts ct0 k (by rw [← HNC.out]; exact hk))
        clear hat
        generalize cts.getD k ct0 = x at *
        obtain ⟨nm, base, bands, pc, yc, rd⟩ := x
        dsimp only at c0 c1' c2 c3 c4 c5 hsz hbs
        obtain ⟨e1, he1⟩ : ∃ e1, e1 = nmE nm ((cts.take k).map Ct.nm) := ⟨_, rfl⟩
        have HE1 := Lib.hid he1
        obtain ⟨A9, c9, he9, _, hst⟩ := own_sl stC 1 st0 stC_len HO.out.2 HO.out.1 (by decide)
        injection he9 with y1 _ y2
        subst y1; subst y2
        have KN := Lib.hid (tname_c nm A1 k c1 _ (wr.alloc (.cells #[.string nm, .int .i64 base, .slice A' n' c', .int .i64 pc, .int .i64 yc, .int .i64 rd] 37)) hsz (RowSl.below hst (below1 wr _)) e1 HE1)
        have HBA := Lib.hid (bA hbl (.cells #[.string nm, .int .i64 base, .slice A' n' c', .int .i64 pc, .int .i64 yc, .int .i64 rd] 37))
        have HZA := Lib.hid (HZ.out.alloc (.cells #[.string nm, .int .i64 base, .slice A' n' c', .int .i64 pc, .int .i64 yc, .int .i64 rd] 37))
        have HQA := Lib.hid (Blk.mk wr 37 #[.string nm, .int .i64 base, .slice A' n' c', .int .i64 pc, .int .i64 yc, .int .i64 rd])
        have HOA := Lib.hid (HO.out.2.alloc (.cells #[.string nm, .int .i64 base, .slice A' n' c', .int .i64 pc, .int .i64 yc, .int .i64 rd] 37))
        have HOL := Lib.hid HO.out.1
        have HBS := Lib.hid (hbs.below (below1 wr (.cells #[.string nm, .int .i64 base, .slice A' n' c', .int .i64 pc, .int .i64 yc, .int .i64 rd] 37)))
        clear hst he1 hbl HZ HO hbs
        go_wp2_with fail
        refine KN.out.mono ?_
        rintro e w2 ⟨rfl, hb2⟩
        have HB2 := Lib.hid (bT HBA.out hb2)
        have HZ2 := Lib.hid (HZA.out.t hb2)
        have HQ2 := Lib.hid (HQA.out.t hb2)
        have HO2 := Lib.hid (own_below HOA.out hb2)
        have HBS2 := Lib.hid (HBS.out.below hb2)
        obtain ⟨q0, q1, q2, q3, q4, q5⟩ := HQ2.out.all6
        clear hb2 KN HBA HZA HQA HOA HBS
        by_cases h0 : e1 = 0
        case neg =>
          have v1 : (e1 == 0) = false := by simpa using h0
          have v2 : (e1 != 0) = true := by simpa using h0
          have HE : Hid (r = e1) := HST.out e1 (ctE_name HE1.out.symm h0) h0
          clear h0
          go_wp2_with fail
          go_ret
          exact ⟨by rw [HE.out] <;> rfl, HB2.out⟩
        subst h0
        by_cases d1 : base < 1
        · have HE : Hid (r = 1) := HST.out 1 (ctE_range HE1.out.symm (by dsimp only; omega)) (by decide)
          go_wp2_with fail
          go_ret
          exact ⟨by rw [HE.out] <;> rfl, HB2.out⟩
        by_cases d2 : 2 < base
        · have HE : Hid (r = 1) := HST.out 1 (ctE_range HE1.out.symm (by dsimp only; omega)) (by decide)
          go_wp2_with fail
          go_ret
          exact ⟨by rw [HE.out] <;> rfl, HB2.out⟩
        by_cases d3 : rd < 1
        · have HE : Hid (r = 1) := HST.out 1 (ctE_range HE1.out.symm (by dsimp only; omega)) (by decide)
          go_wp2_with fail
          go_ret
          exact ⟨by rw [HE.out] <;> rfl, HB2.out⟩
        by_cases d4 : 6 < rd
        · have HE : Hid (r = 1) := HST.out 1 (ctE_range HE1.out.symm (by dsimp only; omega)) (by decide)
          go_wp2_with fail
          go_ret
          exact ⟨by rw [HE.out] <;> rfl, HB2.out⟩
        by_cases d5 : pc < 0
        · have HE : Hid (r = 1) := HST.out 1 (ctE_range HE1.out.symm (by dsimp only; omega)) (by decide)
          go_wp2_with fail
          go_ret
          exact ⟨by rw [HE.out] <;> rfl, HB2.out⟩
        by_cases d6 : yc < 0
        · have HE : Hid (r = 1) := HST.out 1 (ctE_range HE1.out.symm (by dsimp only; omega)) (by decide)
          go_wp2_with fail
          go_ret
          exact ⟨by rw [HE.out] <;> rfl, HB2.out⟩
        by_cases d7 : 100000000000 < pc
        · have HE : Hid (r = 1) := HST.out 1 (ctE_range HE1.out.symm (by dsimp only; omega)) (by decide)
          go_wp2_with fail
          go_ret
          exact ⟨by rw [HE.out] <;> rfl, HB2.out⟩
        by_cases d8 : 100000000000 < yc
        · have HE : Hid (r = 1) := HST.out 1 (ctE_range HE1.out.symm (by dsimp only; omega)) (by decide)
          go_wp2_with fail
          go_ret
          exact ⟨by rw [HE.out] <;> rfl, HB2.out⟩
        obtain ⟨r2, hr2⟩ : ∃ r2, r2 = bandsErr bands := ⟨_, rfl⟩
        have HRR := Lib.hid hr2
        have HCE : Hid (ctE (cts.take k) ⟨nm, base, bands, pc, yc, rd⟩ = r2) := (ctE_bands HE1.out.symm d1 d2 d3 d4 d5 d6 d7 d8).trans hr2.symm
        clear hr2
        have KB := Lib.hid (fun w h => rcheck_c bands A' n' c' w h r2 HRR)
        by_cases hr0 : r2 = 0
        case neg =>
          have tr : (r2 != 0) = true := by simpa using hr0
          have HE : Hid (r = r2) := HST.out r2 HCE.out hr0
          clear hr0
          go_wp2_with fail
          refine (KB.out _ HBS2.out).mono ?_
          rintro e w3 ⟨rfl, hb3⟩
          go_wp2_with fail
          go_ret
          exact ⟨by rw [HE.out] <;> rfl, bT HB2.out hb3⟩
        subst hr0
        have HG := Lib.hid (HGO.out HCE.out)
        go_wp2_with fail
        refine (KB.out _ HBS2.out).mono ?_
        rintro e w3 ⟨rfl, hb3⟩
        have HB3 := Lib.hid (bT HB2.out hb3)
        have HZ3 := Lib.hid (HZ2.out.t hb3)
        have HO3 := Lib.hid (own_below HO2.out hb3)
        have y0 := (HQ2.out.t hb3).cell 0
        have hsz3 := HB3.out.size
        clear hb3 q0 q1 q2 q3 q4 q5 d1 d2 d3 d4 d5 d6 d7 d8
        go_wp2_with (at_builtin; refine wpList_app1 _ rfl _ _ 32 rfl 9 _ 1 16 Tryz.underlying32 info_str rfl (by decide) rfl HO3.out _ rfl (by first | rfl | simp) rfl (by simp [Value.oneCell']) (by omega) (by omega) (by first | omega | (simp; omega)) ?_; intro v' w7 ho' hg)
        obtain ⟨A8, c8, rfl⟩ := own_slice ho'
        have HO7 : Hid (OwnSt w7 w.heap.size (.slice A8 (k + 1) c8) (k + 1) ((cts.take (k + 1)).map Ct.nm)) := by
          unfold Hid
          rw [HSN.out]
          exact ⟨by rw [List.length_append, ← HOL.out]; rfl, by rw [List.flatMap_append]; exact ho'⟩
        have HB7 := Lib.hid (bP HB3.out HO3.out hg (Nat.le_refl _))
        have HZ7 := Lib.hid (HZ3.out.grown hg (own_blk HO3.out HZ3.out (by decide)))
        clear ho' hg
        go_wp2_with fail
        go_roundw
        case rel => exact ⟨k + 1, A8, c8, by omega, by go_num, rfl, HO7.out, HG.out, HB7.out, HZ7.out⟩
        case measure => simp [intOf]; omega
      obtain rfl : nc = k := by omega
      have HC0 : Hid (ctsE cts = 0) := HSC.out.trans hok.out
      have HF3 : Hid (r = kdsE kds) := HF2.out.trans (if_neg (fun h => h HC0.out))
      obtain ⟨z0, z1, z2, z3, z4⟩ := HZ.out.all5
      clear HF2 HFC HSC hok hk hk' HO
      by_cases h8 : nk < 1
      · have v8 : decide ((nk : Int) < 1) = true := by simp; omega
        have HE : Hid (r = 2) := HF3.out.trans (by have := HNK.out; unfold kdsE; rw [if_pos (by omega)])
        clear h8
        go_wp2_with fail
        go_ret
        exact ⟨by rw [HE.out] <;> rfl, hbl⟩
      have v8 : decide ((nk : Int) < 1) = false := by simp; omega
      by_cases h9 : 12 < nk
      · have v9 : decide ((12 : Int) < (nk : Int)) = true := by simp; omega
        have HE : Hid (r = 2) := HF3.out.trans (by have := HNK.out; unfold kdsE; rw [if_pos (by omega)])
        clear h9
        go_wp2_with fail
        go_ret
        exact ⟨by rw [HE.out] <;> rfl, hbl⟩
      have v9 : decide ((12 : Int) < (nk : Int)) = false := by simp; omega
      have HSC : Hid (r = firstNZ (kdsF kds) nk) := HF3.out.trans (by have := HNK.out; unfold kdsE; rw [if_neg (by omega), HNK.out])
      have HBX := Lib.hid hbl
      clear hbl
      go_wp2_with fail
      clear z0 z1 z2 z3 z4
      go_loopw [8, 150] (fun v i wr => ∃ (k : Nat) (A1 : Option Addr) (c1 : Nat), k ≤ nk ∧ i = .int .i64 k ∧ v = .slice A1 k c1 ∧ Hid (OwnSt wr w.heap.size (.slice A1 k c1) k ((kds.take k).map Kd.nm)) ∧ Hid (firstNZ (kdsF kds) k = 0) ∧ Below w.heap.size w wr) (fun _ i _ => nk - (intOf i).toNat)
      case atStart => exact ⟨0, none, 0, Nat.zero_le _, rfl, rfl, ⟨rfl, World.ownsRow_nil _ _ _ _⟩, rfl, HBX.out⟩
      clear HZ HBX
      case round =>
        obtain ⟨k, A1, c1, hk', rfl, rfl, HO, hok, hbl⟩ := hrel
        by_cases hk : k < nk
        case neg =>
          obtain rfl : nk = k := by omega
          have HE : Hid (r = 0) := HSC.out.trans hok.out
          go_wp2_with fail
          go_ret
          exact ⟨by rw [HE.out] <;> rfl, hbl⟩
        obtain ⟨b, off, rfl, hlt, hat⟩ := (HK.out.below hbl).2.2 (by omega)
        obtain ⟨c0, hsz, c1', c2, c3⟩ := hat k hk
        have HST : Hid (∀ v, kdE1 (kds.take k) (kds.getD k kd0) = v → v ≠ 0 → r = v) := fun v h h0 => HSC.out.trans ((firstNZ_stop _ k _ hok.out (by unfold kdsF; rw [h]; exact h0) hk).trans h)
        have HGO : Hid (kdE1 (kds.take k) (kds.getD k kd0) = 0 → firstNZ (kdsF kds) (k + 1) = 0) := fun h => firstNZ_step _ _ hok.out h
        have HSN := Lib.hid (st_snoc Kd.nm kds kd0 k (by rw [← HNK.out]; exact hk))
        clear hat
        generalize kds.getD k kd0 = x at *
        obtain ⟨nm, xc, xt, xs⟩ := x
        dsimp only at c0 c1' c2 c3 hsz
        obtain ⟨e1, he1⟩ : ∃ e1, e1 = nmE nm ((kds.take k).map Kd.nm) := ⟨_, rfl⟩
        have HE1 := Lib.hid he1
        obtain ⟨A9, c9, he9, _, hst⟩ := own_sl stC 1 st0 stC_len HO.out.2 HO.out.1 (by decide)
        injection he9 with y1 _ y2
        subst y1; subst y2
        have KN := Lib.hid (tname_c nm A1 k c1 _ (wr.alloc (.cells #[.string nm, .int .i64 xc, .int .i64 xt, .int .i64 xs] 60)) hsz (RowSl.below hst (below1 wr _)) e1 HE1)
        have HBA := Lib.hid (bA hbl (.cells #[.string nm, .int .i64 xc, .int .i64 xt, .int .i64 xs] 60))
        have HQA := Lib.hid (Blk.mk wr 60 #[.string nm, .int .i64 xc, .int .i64 xt, .int .i64 xs])
        have HOA := Lib.hid (HO.out.2.alloc (.cells #[.string nm, .int .i64 xc, .int .i64 xt, .int .i64 xs] 60))
        have HOL := Lib.hid HO.out.1
        have i0 : ∀ w, (Instr.index 75 (.agg #[.int .i64 xc, .int .i64 xt, .int .i64 xs]) (.int .i64 0)).run Tryz.prog w = .ok (.int .i64 xc) w := fun _ => by kernel_rfl
        have i1 : ∀ w, (Instr.index 75 (.agg #[.int .i64 xc, .int .i64 xt, .int .i64 xs]) (.int .i64 1)).run Tryz.prog w = .ok (.int .i64 xt) w := fun _ => by kernel_rfl
        have i2 : ∀ w, (Instr.index 75 (.agg #[.int .i64 xc, .int .i64 xt, .int .i64 xs]) (.int .i64 2)).run Tryz.prog w = .ok (.int .i64 xs) w := fun _ => by kernel_rfl
        clear hst he1 hbl HO
        go_wp2_with fail
        refine KN.out.mono ?_
        rintro e w2 ⟨rfl, hb2⟩
        have HB2 := Lib.hid (bT HBA.out hb2)
        have HO2 := Lib.hid (own_below HOA.out hb2)
        obtain ⟨q0, q1, q2, q3⟩ := (HQA.out.t hb2).all4
        have hsz2 := HB2.out.size
        clear hb2 KN HBA HQA HOA
        by_cases h0 : e1 = 0
        case neg =>
          have v1 : (e1 == 0) = false := by simpa using h0
          have v2 : (e1 != 0) = true := by simpa using h0
          have HE : Hid (r = e1) := HST.out e1 (kdE_name HE1.out.symm h0) h0
          clear h0
          go_wp2_with fail
          refine wp_loop_rounds 4 ?_
          rw [rounds_succ]
          go_wp2_with fail
          rw [rounds_succ]
          go_wp2_with fail
          rw [rounds_succ]
          go_wp2_with fail
          rw [rounds_succ]
          go_wp2_with fail
          go_ret
          exact ⟨by rw [HE.out] <;> rfl, HB2.out⟩
        subst h0
        by_cases d1 : xc < -1
        · have HE : Hid (r = 1) := HST.out 1 ((kdE_range HE1.out.symm).trans (if_pos (by dsimp only; omega))) (by decide)
          go_wp2_with fail
          refine wp_loop_rounds 4 ?_
          rw [rounds_succ]
          go_wp2_with fail
          rw [rounds_succ]
          go_wp2_with fail
          rw [rounds_succ]
          go_wp2_with fail
          rw [rounds_succ]
          go_wp2_with fail
          go_ret
          exact ⟨by rw [HE.out] <;> rfl, HB2.out⟩
        by_cases d2 : 1 < xc
        · have HE : Hid (r = 1) := HST.out 1 ((kdE_range HE1.out.symm).trans (if_pos (by dsimp only; omega))) (by decide)
          go_wp2_with fail
          refine wp_loop_rounds 4 ?_
          rw [rounds_succ]
          go_wp2_with fail
          rw [rounds_succ]
          go_wp2_with fail
          rw [rounds_succ]
          go_wp2_with fail
          rw [rounds_succ]
          go_wp2_with fail
          go_ret
          exact ⟨by rw [HE.out] <;> rfl, HB2.out⟩
        by_cases d3 : xt < -1
        · have HE : Hid (r = 1) := HST.out 1 ((kdE_range HE1.out.symm).trans (if_pos (by dsimp only; omega))) (by decide)
          go_wp2_with fail
          refine wp_loop_rounds 4 ?_
          rw [rounds_succ]
          go_wp2_with fail
          rw [rounds_succ]
          go_wp2_with fail
          rw [rounds_succ]
          go_wp2_with fail
          rw [rounds_succ]
          go_wp2_with fail
          go_ret
          exact ⟨by rw [HE.out] <;> rfl, HB2.out⟩
        by_cases d4 : 1 < xt
        · have HE : Hid (r = 1) := HST.out 1 ((kdE_range HE1.out.symm).trans (if_pos (by dsimp only; omega))) (by decide)
          go_wp2_with fail
          refine wp_loop_rounds 4 ?_
          rw [rounds_succ]
          go_wp2_with fail
          rw [rounds_succ]
          go_wp2_with fail
          rw [rounds_succ]
          go_wp2_with fail
          rw [rounds_succ]
          go_wp2_with fail
          go_ret
          exact ⟨by rw [HE.out] <;> rfl, HB2.out⟩
        by_cases d5 : xs < -1
        · have HE : Hid (r = 1) := HST.out 1 ((kdE_range HE1.out.symm).trans (if_pos (by dsimp only; omega))) (by decide)
          go_wp2_with fail
          refine wp_loop_rounds 4 ?_
          rw [rounds_succ]
          go_wp2_with fail
          rw [rounds_succ]
          go_wp2_with fail
          rw [rounds_succ]
          go_wp2_with fail
          rw [rounds_succ]
          go_wp2_with fail
          go_ret
          exact ⟨by rw [HE.out] <;> rfl, HB2.out⟩
        by_cases d6 : 1 < xs
        · have HE : Hid (r = 1) := HST.out 1 ((kdE_range HE1.out.symm).trans (if_pos (by dsimp only; omega))) (by decide)
          go_wp2_with fail
          refine wp_loop_rounds 4 ?_
          rw [rounds_succ]
          go_wp2_with fail
          rw [rounds_succ]
          go_wp2_with fail
          rw [rounds_succ]
          go_wp2_with fail
          rw [rounds_succ]
          go_wp2_with fail
          go_ret
          exact ⟨by rw [HE.out] <;> rfl, HB2.out⟩
        have HG := Lib.hid (HGO.out ((kdE_range HE1.out.symm).trans (if_neg (by dsimp only; omega))))
        go_wp2_with fail
        refine wp_loop_rounds 4 ?_
        rw [rounds_succ]
        go_wp2_with fail
        rw [rounds_succ]
        go_wp2_with fail
        rw [rounds_succ]
        go_wp2_with fail
        rw [rounds_succ]
        go_wp2_with (at_builtin; refine wpList_app1 _ rfl _ _ 32 rfl 9 _ 1 16 Tryz.underlying32 info_str rfl (by decide) rfl HO2.out _ rfl (by first | rfl | simp) rfl (by simp [Value.oneCell']) (by omega) (by omega) (by first | omega | (simp; omega)) ?_; intro v' w7 ho' hg)
        obtain ⟨A8, c8, rfl⟩ := own_slice ho'
        have HO7 : Hid (OwnSt w7 w.heap.size (.slice A8 (k + 1) c8) (k + 1) ((kds.take (k + 1)).map Kd.nm)) := by
          unfold Hid
          rw [HSN.out]
          exact ⟨by rw [List.length_append, ← HOL.out]; rfl, by rw [List.flatMap_append]; exact ho'⟩
        have HB7 := Lib.hid (bP HB2.out HO2.out hg (Nat.le_refl _))
        clear ho' hg
        go_wp2_with fail
        go_roundw
        case rel => exact ⟨k + 1, A8, c8, by omega, by go_num, rfl, HO7.out, HG.out, HB7.out⟩
        case measure => simp [intOf]; omega
--%%
end Go.Proofs.YtbliblhipecgfaaGreatDoor
