/-
  Layer 11's law ElementChange: its walk. Conditions as named.
-/
import Derived.Test.YtbpdgkaohfmabaaDoorLaw11
import Derived.Test.YtbpdgkaohfmabaaDoorElemP
namespace Go.Proofs.YtbpdgkaohfmabaaDoor
set_option linter.unusedVariables false
open Go.RowKit
theorem sameB_iff {L M : List El} : sameB L M = true ↔ L = M := by
  constructor
  · intro h
    simp only [sameB, Bool.and_eq_true, decide_eq_true_eq, eqTo_iff] at h
    obtain ⟨h1, h2⟩ := h
    refine List.ext_getElem h1 fun i hi hj => ?_
    have := h2 i hi
    simpa [List.getD, hi, hj] using this
  · rintro rfl; exact sameB_self _
set_option maxRecDepth 100000 in
set_option maxHeartbeats 6400000 in
theorem elementChange_walk (A : Option Addr) (n c : Nat) (L : List El) (kd : ByteArray) (am : Int) (w : World) (hl : ElSl w A n L) (htab : Tab w) :
    Calls Tryd.prog 6 #[.slice A n c, .string kd, .int .i64 am] w fun e w' => e = .returned (.bool true) ∧ Below w.heap.size w w' := by
  have HT := Lib.hid htab
  have HL := Lib.hid hl
  have hn9 := hl.2.1
  have hlen := hl.1
  clear htab hl
  by_cases hn40 : 40 < n
  · have v1 : decide ((40 : Int) < (n : Int)) = true := by simp; omega
    clear hlen
    go_enter Tryd.func6, Tryd.ntmps6
    go_wp2_with fail
    refine (worths_c _ HT.out).mono ?_
    rintro e w1 ⟨rfl, hb1⟩
    go_wp2_with fail
    go_ret
    exact ⟨rfl, hb1⟩
  have v1 : decide ((40 : Int) < (n : Int)) = false := by simp; omega
  obtain ⟨R, hR⟩ : ∃ R, R = chL kd am L n := ⟨_, rfl⟩
  have hRF : R = chF kd am (decide (am = 0)) L := by rw [hR, hlen]; exact chL_F kd am L
  have hRl : R.length ≤ n + 1 := by rw [hR]; exact chL_len kd am L n
  have HO : Hid (oth kd R = oth kd L) := by unfold Hid; rw [hRF]; exact oth_F kd am L _
  have HC : Hid (cnt kd R = if am = 0 then 0 else 1) := by unfold Hid; rw [hRF, cnt_F]; simp
  have H1 : Hid (∀ x ∈ R, x.k = kd → x = ⟨kd, am, 100⟩) := by unfold Hid; rw [hRF]; exact one_F kd am L _
  have HI : Hid (chL kd am R R.length = R) := by unfold Hid; rw [chL_F, hRF]; exact idem_F kd am L _
  have KC : Hid (∀ W, ElSl W A n L → Calls Tryd.prog 16 #[.string kd, .int .i64 am, .slice A n c] W fun e w' => (∃ v, e = .returned v ∧ OwnEl w' W.heap.size v R.length R) ∧ Below W.heap.size W w') := fun W h => by rw [hR]; exact echange_c kd am A n c L W h (by omega)
  have KD : Hid (∀ (B : Option Addr) (d : Nat) W, ElSl W B R.length R → Calls Tryd.prog 16 #[.string kd, .int .i64 am, .slice B R.length d] W fun e w' => (∃ v, e = .returned v ∧ OwnEl w' W.heap.size v R.length R) ∧ Below W.heap.size W w') := fun B d W h => by
    have := echange_c kd am B R.length d R W h (by omega)
    rw [HI.out] at this
    exact this
  have KS : Hid (∀ (B D : Option Addr) (c d : Nat) W, ElSl W B R.length R → ElSl W D R.length R → Calls Tryd.prog 18 #[.slice B R.length c, .slice D R.length d] W fun e w' => e = .returned (.bool true) ∧ Below W.heap.size W w') := fun B D c d W h1 h2 => esame_c B D _ c _ d R R W h1 h2 true (Lib.hid (sameB_self R).symm)
  have KO := Lib.hid (fun W => eof_c kd am W)
  have HLEN := Lib.hid hlen
  clear hlen hR hRF
  generalize hm : R.length = m at *
  have HM := Lib.hid hm
  clear hm HI
  go_enter Tryd.func6, Tryd.ntmps6
  go_wp2_with fail
  refine (worths_c _ HT.out).mono ?_
  rintro e w1 ⟨rfl, hb1⟩
  go_wp2_with fail
  refine (KC.out _ (HL.out.below hb1)).mono ?_
  rintro e w2 ⟨⟨v, rfl, hv⟩, hb2⟩
  have hB2 := bT hb1 hb2
  obtain ⟨B, d, rfl, hs⟩ := OwnEl.sl hv
  have HS := Lib.hid hs
  clear hv hs
  go_wp2_with fail
  go_loopw [8, 9, 26] (fun o q i wr => ∃ k : Nat, k ≤ m ∧ i = .int .i64 k ∧ q = .int .i64 (cnt kd (R.take k)) ∧ OwnEl wr w2.heap.size o (oth kd (R.take k)).length (oth kd (R.take k)) ∧ Below w2.heap.size w2 wr) (fun _ _ i _ => m - (intOf i).toNat)
  case atStart => exact ⟨0, Nat.zero_le _, rfl, rfl, ⟨rfl, World.ownsRow_nil _ _ _ _⟩, b0 _⟩
  case round =>
    obtain ⟨k, hk', rfl, rfl, ho, hbl⟩ := hrel
    have hBl := bT hB2 hbl
    have hsz := hbl.size
    have hcl := cnt_len kd R k
    have hol := oth_len kd R k
    obtain ⟨Bo, co, rfl⟩ := own_slice ho.2
    by_cases hk : k < m
    · obtain ⟨b, off, rfl, hlt, hat⟩ := (HS.out.below hbl).2.2 (by omega)
      have hc := hat k hk
      have HKR : Hid (k < R.length) := by unfold Hid; rw [HM.out]; exact hk
      have HOS := Lib.hid (oth_succ kd R k HKR.out)
      have HCS := Lib.hid (cnt_succ kd R k HKR.out)
      have HX : Hid ((R.getD k el0).k = kd → R.getD k el0 = ⟨kd, am, 100⟩) := fun h => H1.out _ (by
        have e : R.getD k el0 = R[k]'HKR.out := by simp [List.getD, List.getElem?_eq_getElem HKR.out]
        rw [e]; exact List.getElem_mem _) h
      generalize oth kd (R.take k) = O at *
      generalize cnt kd (R.take k) = Q at *
      generalize R.getD k el0 = zz at *
      obtain ⟨zk, za, zu⟩ := zz
      obtain ⟨c0, c1, c2⟩ : wr.cell? ⟨b, off + k * 3, none⟩ = some (.string zk) ∧ wr.cell? ⟨b, off + k * 3 + 1, none⟩ = some (.int .i64 za) ∧ wr.cell? ⟨b, off + k * 3 + 2, none⟩ = some (.int .i64 zu) := ⟨hc 0 _ rfl, hc 1 _ rfl, hc 2 _ rfl⟩
      have hbx := bA hbl (.cells #[.string zk, .int .i64 za, .int .i64 zu] 23)
      have y := Blk.mk wr 23 #[.string zk, .int .i64 za, .int .i64 zu]
      have HOW := Lib.hid (show OwnEl (wr.alloc (.cells #[.string zk, .int .i64 za, .int .i64 zu] 23)) w2.heap.size (.slice Bo O.length co) O.length O from ⟨rfl, ho.2.alloc _⟩)
      clear ho hc hat
      by_cases he : zk = kd
      · have he2 := HX.out he
        injection he2 with _ e1 e2
        subst he; subst e1; subst e2
        have v2 : (zk.toList == zk.toList) = true := by simp
        have HOS2 : Hid (oth zk (R.take (k + 1)) = O) := by unfold Hid; rw [HOS.out, if_pos rfl]; simp
        have HCS2 : Hid (cnt zk (R.take (k + 1)) = Q + 1) := by unfold Hid; rw [HCS.out, if_pos rfl]
        have G : Hid (∀ W, Below (wr.alloc (.cells #[.string zk, .int .i64 za, .int .i64 100] 23)).heap.size (wr.alloc (.cells #[.string zk, .int .i64 za, .int .i64 100] 23)) W → Below (wr.alloc (.cells #[.string zk, .int .i64 za, .int .i64 100] 23)).heap.size (wr.alloc (.cells #[.string zk, .int .i64 za, .int .i64 100] 23)) W ∧ W.cell? ⟨wr.heap.size, 0, none⟩ = some (.string zk) ∧ W.cell? ⟨wr.heap.size, 1, none⟩ = some (.int .i64 za) ∧ W.cell? ⟨wr.heap.size, 2, none⟩ = some (.int .i64 100)) := fun W hW => ⟨hW, (y.t hW).cell 0, (y.t hW).cell 1, (y.t hW).cell 2⟩
        clear HX HOS HCS
        go_wp2_with fail
        go_region_held3 (fun W => Below (wr.alloc (.cells #[.string zk, .int .i64 za, .int .i64 100] 23)).heap.size (wr.alloc (.cells #[.string zk, .int .i64 za, .int .i64 100] 23)) W ∧ W.cell? ⟨wr.heap.size, 0, none⟩ = some (.string zk) ∧ W.cell? ⟨wr.heap.size, 1, none⟩ = some (.int .i64 za) ∧ W.cell? ⟨wr.heap.size, 2, none⟩ = some (.int .i64 100))
          (first | assumption | exact G.out _ (b0 _).drew | (exact sK G.out (by assumption) (by assumption)) | (exact sK G.out (by assumption) (below1 _ _)))
          (first | (go_at_call 17; (with_reducible refine (KO.out _).mono ?_); rintro e wq ⟨rfl, hbq⟩))
        all_goals
          have hbz := (show Below (wr.alloc _).heap.size _ _ ∧ _ from by assumption).1
          go_wp2_with fail
          go_roundw
          case rel => exact ⟨k + 1, by omega, by go_num, by rw [HCS2.out]; go_num, by rw [HOS2.out]; exact HOW.out.below hbz, bT hbx hbz⟩
          case measure => simp [intOf]; omega
      · have v2 := str_neq he
        have HOS2 : Hid (oth kd (R.take (k + 1)) = O ++ [⟨zk, za, zu⟩]) := by unfold Hid; rw [HOS.out, if_neg he]
        have HCS2 : Hid (cnt kd (R.take (k + 1)) = Q) := by unfold Hid; rw [HCS.out, if_neg he]; rfl
        have hsz2 : w2.heap.size ≤ (wr.alloc (.cells #[.string zk, .int .i64 za, .int .i64 zu] 23)).heap.size := by simp; omega
        have HBX := Lib.hid (bT hB2 hbx)
        clear HX HOS HCS he
        go_wp2_with (at_builtin; refine wpList_app1 _ rfl _ _ 36 rfl 23 _ 3 32 Tryd.underlying36 info_el rfl (by decide) rfl HOW.out.2 _ rfl (by first | rfl | simp) rfl (by simp [Value.oneCell']) (by omega) (by omega) (by first | omega | (simp; omega)) ?_; intro v' w6 ho' hg)
        go_roundw
        case rel => exact ⟨k + 1, by omega, by go_num, by rw [HCS2.out], by rw [HOS2.out]; exact ⟨by simp, by simpa [elC] using ho'⟩, bP hbx HOW.out.2 hg (Nat.le_refl _)⟩
        case measure => simp [intOf]; omega
    obtain rfl : k = m := by omega
    have hRm : R.take k = R := by rw [← HM.out]; exact List.take_length
    rw [hRm] at ho hcl hol
    rw [hRm]
    have HQ := Lib.hid HC.out
    have HOL : Hid (oth kd R = oth kd L) := HO
    rw [HO.out] at ho hol
    rw [HO.out]
    generalize cnt kd R = Q at *
    have HNL : Hid (n = L.length) := HLEN
    have HA : Hid (∀ j, j < n → (L.getD j el0).k ≠ kd → (oth kd (L.take j)).length < (oth kd L).length ∧ (oth kd L).getD (oth kd (L.take j)).length el0 = L.getD j el0) := fun j hj h => oth_at kd L j (by rw [← HNL.out]; exact hj) h
    have HZ : Hid (oth kd (L.take n) = oth kd L) := by unfold Hid; rw [HNL.out]; exact oth_all kd L
    have HSU : Hid (∀ j, j < n → oth kd (L.take (j + 1)) = oth kd (L.take j) ++ if (L.getD j el0).k = kd then [] else [L.getD j el0]) := fun j hj => oth_succ kd L j (by rw [← HNL.out]; exact hj)
    have HLE : Hid (∀ j, (oth kd (L.take j)).length ≤ j) := fun j => oth_len kd L j
    have H00 : Hid ((oth kd (L.take 0)).length = 0) := rfl
    generalize hOl : oth kd L = O at *
    obtain ⟨Ao, co', hAo, hso⟩ := OwnEl.sl ho
    injection hAo with hAo _ _
    subst hAo
    have HOW := Lib.hid ho
    have HSO := Lib.hid hso
    have HBL := Lib.hid hBl
    have HBL0 := Lib.hid hbl
    clear ho hso hk hk' hRm HC HOL
    go_wp2_with fail
    clear hsz hBl
    obtain ⟨wo, hwo⟩ : ∃ wo : World, wo = wr := ⟨_, rfl⟩
    subst hwo
    go_loopw [12, 48] (fun q i wr => ∃ j : Nat, j ≤ n ∧ i = .int .i64 j ∧ q = .int .i64 (oth kd (L.take j)).length ∧ Below wo.heap.size wo wr) (fun _ i _ => n - (intOf i).toNat)
    case atStart => exact ⟨0, Nat.zero_le _, rfl, by rw [H00.out]; rfl, b0 _⟩
    case round =>
      obtain ⟨j, hj', rfl, rfl, hbl2⟩ := hrel
      have hbl3 := bT HBL.out hbl2
      by_cases hj : j < n
      · obtain ⟨b, off, rfl, hlt, hat⟩ := (HL.out.below hbl3).2.2 (by omega)
        have hc := hat j hj
        have hSU := HSU.out j hj
        have hle := HLE.out j
        have HAj := Lib.hid (HA.out j hj)
        generalize hq : (oth kd (L.take j)).length = q at *
        have HSJ : Hid ((oth kd (L.take (j + 1))).length = q + if (L.getD j el0).k = kd then 0 else 1) := by
          unfold Hid; rw [hSU, List.length_append, hq]; split <;> rfl
        clear hSU hq
        generalize L.getD j el0 = zz at *
        obtain ⟨zk, za, zu⟩ := zz
        obtain ⟨c0, c1, c2⟩ : wr.cell? ⟨b, off + j * 3, none⟩ = some (.string zk) ∧ wr.cell? ⟨b, off + j * 3 + 1, none⟩ = some (.int .i64 za) ∧ wr.cell? ⟨b, off + j * 3 + 2, none⟩ = some (.int .i64 zu) := ⟨hc 0 _ rfl, hc 1 _ rfl, hc 2 _ rfl⟩
        have hbx := bA hbl2 (.cells #[.string zk, .int .i64 za, .int .i64 zu] 23)
        have y := Blk.mk wr 23 #[.string zk, .int .i64 za, .int .i64 zu]
        clear hc hat
        by_cases he : zk = kd
        · subst he
          have v2 : (zk.toList == zk.toList) = true := by simp
          have HSK : Hid ((oth zk (L.take (j + 1))).length = q) := by unfold Hid; rw [HSJ.out, if_pos rfl]; rfl
          clear HAj HSJ
          go_wp2_with fail
          go_roundw
          case rel => exact ⟨j + 1, by omega, by go_num, by rw [HSK.out], hbx⟩
          case measure => simp [intOf]; omega
        · have v2 := str_neq he
          obtain ⟨hql, hqv⟩ := HAj.out he
          have HSK : Hid ((oth kd (L.take (j + 1))).length = q + 1) := by unfold Hid; rw [HSJ.out, if_neg he]
          obtain ⟨b2, off2, rfl, hlt2, hat2⟩ := (HSO.out.below hbx).2.2 (by omega)
          have hc2 := hat2 q hql
          rw [hqv] at hc2
          obtain ⟨d0, d1, d2⟩ : (wr.alloc (.cells #[.string zk, .int .i64 za, .int .i64 zu] 23)).cell? ⟨b2, off2 + q * 3, none⟩ = some (.string zk) ∧ (wr.alloc (.cells #[.string zk, .int .i64 za, .int .i64 zu] 23)).cell? ⟨b2, off2 + q * 3 + 1, none⟩ = some (.int .i64 za) ∧ (wr.alloc (.cells #[.string zk, .int .i64 za, .int .i64 zu] 23)).cell? ⟨b2, off2 + q * 3 + 2, none⟩ = some (.int .i64 zu) := ⟨hc2 0 _ rfl, hc2 1 _ rfl, hc2 2 _ rfl⟩
          obtain ⟨⟨q0, q1, q2⟩, f0, f1, f2⟩ := y.a3f
          have v3 : decide ((O.length : Int) ≤ (q : Int)) = false := by simp; omega
          have kk0 : (0 : Int) ≤ (q : Int) := by omega
          have kk1 : (q : Int) < (O.length : Int) := by omega
          have kk2 : ((q : Int)).toNat = q := by omega
          clear hc2 hat2 hqv HAj HSJ he
          go_wp2_with fail
          go_quiet (fail)
          go_wp2_with fail
          go_roundw
          case rel => exact ⟨j + 1, by omega, by go_num, by rw [HSK.out]; go_num, bD hbx _⟩
          case measure => simp [intOf]; omega
      obtain rfl : j = n := by omega
      have hq : (oth kd (L.take j)).length = O.length := by rw [HZ.out]
      generalize (oth kd (L.take j)).length = q at *
      subst hq
      have hB5 := bT (bT hB2 HBL0.out) hbl2
      have v3 : ((O.length : Int) != (O.length : Int)) = false := by simp
      by_cases h0 : am = 0
      · have e : Q = 0 := HQ.out.trans (if_pos h0)
        subst e; subst h0
        clear HQ
        go_wp2_with fail
        refine (KD.out _ _ _ (HS.out.below (bT HBL0.out hbl2))).mono ?_
        rintro e w5 ⟨⟨v, rfl, hv⟩, hb6⟩
        obtain ⟨D, dd, rfl, hs⟩ := OwnEl.sl hv
        clear hv
        have HS2 := Lib.hid hs
        clear hs
        go_wp2_with fail
        refine (KS.out _ _ _ _ _ (HS.out.below (bT (bT HBL0.out hbl2) hb6)) HS2.out).mono ?_
        rintro e w6 ⟨rfl, hb7⟩
        go_wp2_with fail
        go_ret
        exact ⟨rfl, bT (bT hB5 hb6) hb7⟩
      · have e : Q = 1 := HQ.out.trans (if_neg h0)
        have v4 : (am == 0) = false := by simpa using h0
        have v5 : (am != 0) = true := by simpa using h0
        subst e
        clear HQ h0
        go_wp2_with fail
        refine (KD.out _ _ _ (HS.out.below (bT HBL0.out hbl2))).mono ?_
        rintro e w5 ⟨⟨v, rfl, hv⟩, hb6⟩
        obtain ⟨D, dd, rfl, hs⟩ := OwnEl.sl hv
        clear hv
        have HS2 := Lib.hid hs
        clear hs
        go_wp2_with fail
        refine (KS.out _ _ _ _ _ (HS.out.below (bT (bT HBL0.out hbl2) hb6)) HS2.out).mono ?_
        rintro e w6 ⟨rfl, hb7⟩
        go_wp2_with fail
        go_ret
        exact ⟨rfl, bT (bT hB5 hb6) hb7⟩
--%%
end Go.Proofs.YtbpdgkaohfmabaaDoor
