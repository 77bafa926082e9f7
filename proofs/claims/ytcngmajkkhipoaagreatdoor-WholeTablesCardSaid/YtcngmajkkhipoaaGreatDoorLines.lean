/-
  Contract of table.Lines. Conditions as named.
-/
import Derived.Test.YtcngmajkkhipoaaGreatDoorM2
import Derived.Deep.RegionHeld3
namespace Go.Proofs.YtcngmajkkhipoaaGreatDoor
set_option linter.unusedVariables false
open Go.RowKit
def LinesR (t : Tb) (w : World) (e : Ending) (w' : World) : Prop :=
  ((tbE t = 0 ∧ ∃ v, e = .returned v ∧ OwnSt w' w.heap.size v (tbL t).length (tbL t)) ∨ (tbE t ≠ 0 ∧ e = .returned (.slice none 0 0))) ∧ Below w.heap.size w w'
--%%
theorem lines_no (t : Tb) (As Ac Ak : Option Addr) (ns cs nc cc nk ck : Nat) (lim rnd : Int) (w : World) (ht : TbIn w t.sch t.cts t.kds As Ac Ak ns cs nc cc nk ck) (hlim : t.lim = lim) (hrnd : t.rnd = rnd) (hne : tbE t ≠ 0) :
    Calls Tryz.prog 8 #[.agg #[.slice As ns cs, .slice Ac nc cc, .slice Ak nk ck, .int .i64 lim, .int .i64 rnd]] w (LinesR t w) := by
  obtain ⟨r, hr⟩ : ∃ r, r = tbE t := ⟨_, rfl⟩
  have hb0 := below1 w (.cells #[.slice As ns cs, .slice Ac nc cc, .slice Ak nk ck, .int .i64 lim, .int .i64 rnd] 26)
  have KC := Lib.hid (xcheck_c t.sch t.cts t.kds As Ac Ak ns cs nc cc nk ck lim rnd _ (ht.s.below hb0) (ht.c.below hb0) ht.cc (ht.k.below hb0) ht.ck r (by unfold Hid; rw [hr, ← hlim, ← hrnd] <;> rfl))
  have v9 : (r != 0) = true := by rw [hr]; simpa using hne
  have HN := Lib.hid hne
  have HB := Lib.hid hb0
  clear hne hb0 ht hr hlim hrnd
  go_enter Tryz.func8, Tryz.ntmps8
  go_wp2_with fail
  refine KC.out.mono ?_
  rintro e w1 ⟨rfl, hb1⟩
  go_wp2_with fail
  go_ret
  exact ⟨Or.inr ⟨HN.out, rfl⟩, bT HB.out hb1⟩
--%%
set_option maxRecDepth 100000 in
set_option maxHeartbeats 3200000 in
theorem lines_yes (t : Tb) (As Ac Ak : Option Addr) (ns cs nc cc nk ck : Nat) (lim rnd : Int) (w : World) (ht : TbIn w t.sch t.cts t.kds As Ac Ak ns cs nc cc nk ck) (hlim : t.lim = lim) (hrnd : t.rnd = rnd) (hne : tbE t = 0) (htab : Tab w) (htab2 : TabS w) :
    Calls Tryz.prog 8 #[.agg #[.slice As ns cs, .slice Ac nc cc, .slice Ak nk ck, .int .i64 lim, .int .i64 rnd]] w (LinesR t w) := by
  have hb0 := below1 w (.cells #[.slice As ns cs, .slice Ac nc cc, .slice Ak nk ck, .int .i64 lim, .int .i64 rnd] 26)
  have KC := Lib.hid (xcheck_c t.sch t.cts t.kds As Ac Ak ns cs nc cc nk ck lim rnd _ (ht.s.below hb0) (ht.c.below hb0) ht.cc (ht.k.below hb0) ht.ck 0 (by rw [← hlim, ← hrnd]; exact hne.symm))
  have HN := Lib.hid hne
  have HB := Lib.hid hb0
  obtain ⟨ok, s8, c6, k12, k1⟩ := tbE_ok hne
  have HOK := Lib.hid ok
  have HS := Lib.hid ht.s
  have HC := Lib.hid ht.c
  have HK := Lib.hid ht.k
  have HNS : Hid (ns = t.sch.length) := ht.s.1
  have HNC : Hid (nc = t.cts.length) := ht.c.1
  have HNK : Hid (nk = t.kds.length) := ht.k.1
  have n8 : ns ≤ 8 := by have := HNS.out; omega
  have m6 : nc ≤ 6 := by have := HNC.out; omega
  have q12 : nk ≤ 12 := by have := HNK.out; omega
  have HT := Lib.hid htab
  have HT2 := Lib.hid htab2
  have hl := rateB_iff.1 ok.lim
  have hm := modeB_iff.1 ok.rnd
  rw [hlim] at hl
  rw [hrnd] at hm
  have llim := itoa_len lim (by omega) (by omega)
  have lrnd := (mode_back rnd (modeB_iff.2 hm)).2.2.2
  have HL2 : Hid ((tbL t).take 2 = [mkB (wLimit ++ 32 :: Lib.itoa lim), mkB (wRound ++ 32 :: (modeN rnd).data.toList)]) := by
    unfold Hid; rw [tbL_two, spJ_lim, spJ_rnd, hlim, hrnd]; simp
  have KN : Hid (∀ W, Tab W → Calls Tryz.prog 23 #[.int .i64 lim] W fun e w' => e = .returned (.string ⟨(Lib.itoa lim).toArray⟩) ∧ Below W.heap.size W w') := fun W h => tnumber_c lim (by omega) (by omega) W h
  have KM : Hid (∀ W, TabS W → Calls Tryz.prog 24 #[.int .i64 rnd] W fun e w' => e = .returned (.string ⟨(modeN rnd).data.toList.toArray⟩) ∧ Below W.heap.size W w') := fun W h => by
    have := tmodeName_c rnd W h
    exact this
  generalize Lib.itoa lim = tl at *
  generalize (modeN rnd).data.toList = tm at *
  have HLEN := Lib.hid (tbL_len t)
  have b1 := Blk.mk w 26 #[.slice As ns cs, .slice Ac nc cc, .slice Ak nk ck, .int .i64 lim, .int .i64 rnd]
  have HB1 := Lib.hid b1
  clear hne hb0 ht hlim hrnd ok s8 c6 k12 k1 htab htab2 b1 hl hm
  go_enter Tryz.func8, Tryz.ntmps8
  go_wp2_with fail
  refine KC.out.mono ?_
  rintro e wa ⟨rfl, hb1⟩
  have HBW := Lib.hid (bT HB.out hb1)
  have HZ := Lib.hid (HB1.out.t hb1)
  have G : Hid (∀ W, Below wa.heap.size wa W → Below wa.heap.size wa W ∧ (W.cell? ⟨w.heap.size, 3, none⟩ = some (.int .i64 lim) ∧ W.cell? ⟨w.heap.size, 4, none⟩ = some (.int .i64 rnd)) ∧ Tab W ∧ TabS W) := fun W hW => ⟨hW, ⟨(HZ.out.t hW).cell 3, (HZ.out.t hW).cell 4⟩, HT.out.t (bT HBW.out hW), HT2.out.t (bT HBW.out hW)⟩
  have st1 : ∀ W, (Op.stringOp .add ⟨#[108, 105, 109, 105, 116, 32]⟩ ⟨tl.toArray⟩).run Tryz.prog W = .ok (.string ⟨(wLimit ++ [32] ++ tl).toArray⟩) W := fun W => run_string_add_lists W (wLimit ++ [32]) tl (by decide) (by omega)
  have st2 : ∀ W, (Op.stringOp .add ⟨#[114, 111, 117, 110, 100, 32]⟩ ⟨tm.toArray⟩).run Tryz.prog W = .ok (.string ⟨(wRound ++ [32] ++ tm).toArray⟩) W := fun W => run_string_add_lists W (wRound ++ [32]) tm (by decide) (by omega)
  clear hb1 HB KC
  go_wp2_with fail
  go_region_held3 (fun W => Below wa.heap.size wa W ∧ (W.cell? ⟨w.heap.size, 3, none⟩ = some (.int .i64 lim) ∧ W.cell? ⟨w.heap.size, 4, none⟩ = some (.int .i64 rnd)) ∧ Tab W ∧ TabS W)
    (first | assumption | exact G.out _ (b0 _).drew | (exact sK G.out (by assumption) (by assumption)) | (exact sK G.out (by assumption) (below1 _ _)))
    (first | (go_at_call 23; (with_reducible refine (KN.out _ (show Below _ _ _ ∧ _ ∧ Tab _ ∧ _ from by assumption).2.2.1).mono ?_); rintro e w1 ⟨rfl, hb1⟩) | (go_at_call 24; (with_reducible refine (KM.out _ (show Below _ _ _ ∧ _ ∧ Tab _ ∧ _ from by assumption).2.2.2).mono ?_); rintro e w1 ⟨rfl, hb1⟩))
  all_goals
    have hS := (show Below wa.heap.size wa _ ∧ _ from by assumption).1
    have hsz : w.heap.size ≤ w1.heap.size := by
      have h1 := hS.size
      have h2 := HZ.out.lt
      rw [World.size_alloc] at h1
      omega
    have HB5 := Lib.hid (bT HBW.out hS)
    have HZ5 := Lib.hid (HZ.out.t hS)
    have HO5 : Hid (OwnSt (w1.alloc (.cells #[.string ⟨(wLimit ++ 32 :: tl).toArray⟩, .string ⟨(wRound ++ 32 :: tm).toArray⟩] 9)) w.heap.size (.slice (some ⟨w1.heap.size, 0, none⟩) 2 2) 2 ((tbL t).take 2)) :=
      ⟨by rw [HL2.out]; rfl, by rw [HL2.out]; exact World.ownsRow_lit w1 #[.string ⟨(wLimit ++ 32 :: tl).toArray⟩, .string ⟨(wRound ++ 32 :: tm).toArray⟩] 2 hsz (by decide) rfl⟩
    clear hS hsz G KN KM st1 st2
    generalize (w1.alloc (.cells #[.string ⟨(wLimit ++ 32 :: tl).toArray⟩, .string ⟨(wRound ++ 32 :: tm).toArray⟩] 9)) = wb at *
    generalize w1.heap.size = g1 at *
    have q0 := HZ5.out.cell 0
    go_wp2_with fail
    clear q0
    go_loopw [3, 30] (fun cv ci wr => ∃ (k : Nat) (A1 : Option Addr) (c1 : Nat), k ≤ ns ∧ ci = .int .i64 k ∧ cv = .slice A1 (2 + k) c1 ∧ Hid (OwnSt wr w.heap.size (.slice A1 (2 + k) c1) (2 + k) ((tbL t).take (2 + k))) ∧ Below w.heap.size w wr ∧ Hid (Blk wr w.heap.size 26 #[.slice As ns cs, .slice Ac nc cc, .slice Ak nk ck, .int .i64 lim, .int .i64 rnd])) (fun _ ci _ => ns - (intOf ci).toNat)
    case atStart => exact ⟨0, _, _, Nat.zero_le _, rfl, rfl, HO5.out, HB5.out, HZ5.out⟩
    case round =>
      obtain ⟨k, A1, c1, hk', rfl, rfl, HO, hbl, HZR⟩ := hrel
      by_cases hk : k < ns
      case pos =>
        obtain ⟨b, off, rfl, hlt, hat⟩ := (HS.out.below hbl).2.2 (by omega)
        obtain ⟨A', n', c', c0, hbs⟩ := hat k hk
        simp only [Nat.mul_one] at c0
        have HSN := Lib.hid (tbL_s t k (by rw [← HNS.out]; exact hk))
        have hox := HOK.out.sch k (by rw [← HNS.out]; exact hk)
        clear hat
        generalize t.sch.getD k [] = x at *
        have hg := goodB x hox.bands
        have hlo := hg.lo
        have hhi := hg.hi
        have hnx : n' = x.length := hbs.1
        have KB := Lib.hid (tbands_c A' n' c' x false wr hbs (fun k hk => band_ok hox.bands _ (getD_mem (by omega))) (by omega) (HT.out.t hbl))
        have hJl : (Lib.join ((bdsT false x).map (·.data.toList)) [32]).length ≤ 600 := by
          have e := spJ_len (x.map (bdT false)) 32 (fun w hw => by
            obtain ⟨b, hb, rfl⟩ := List.mem_map.1 hw
            exact bdT_len false b (band_ok hox.bands b hb))
          have e2 : (bdsT false x).map (·.data.toList) = x.map (bdT false) := by
            unfold bdsT; rw [List.map_map]; rfl
          rw [e2]
          unfold spJ at e
          rw [List.length_map] at e
          omega
        have HJ := Lib.hid (spJ_sch x hlo)
        have HX1 : Hid (1 ≤ n' ∧ n' ≤ 8) := ⟨by omega, by omega⟩
        generalize hJ : Lib.join ((bdsT false x).map (·.data.toList)) [32] = J at *
        have HJJ := Lib.hid hJ
        have HSR := Lib.hid (HT.out.t hbl)
        clear hJ hg hlo hhi hnx hox hbs
        go_wp2_with fail
        refine KB.out.mono ?_
        rintro e w2 ⟨⟨v, rfl, hov⟩, hb2⟩
        obtain ⟨A2, c2, rfl, hnc, hst⟩ := own_sl stC 1 st0 stC_len hov.2 hov.1 (by decide)
        have KJ := Lib.hid (join_c ⟨#[32]⟩ A2 n' c2 (bdsT false x) w2 hst hnc HX1.out.1 (by have := HX1.out; omega) J HJJ.out (by omega))
        have HO2 := Lib.hid (own_below HO.out.2 hb2)
        have HB2 := Lib.hid (bT hbl hb2)
        have HZ2 := Lib.hid (HZR.out.t hb2)
        clear hov hst hnc hb2 KB
        go_wp2_with fail
        refine KJ.out.mono ?_
        rintro e w3 ⟨rfl, hb3⟩
        have HO3 := Lib.hid (own_below HO2.out hb3)
        have HB3 := Lib.hid (bT HB2.out hb3)
        have HZ3 := Lib.hid (HZ2.out.t hb3)
        have hsz3 := HB3.out.size
        clear hb3 KJ
        go_wp2_with (at_builtin; refine wpList_app1 _ rfl _ _ 33 rfl 9 _ 1 16 Tryz.underlying33 info_str rfl (by decide) rfl HO3.out _ rfl (by first | rfl | simp) rfl (by simp [Value.oneCell']) (by omega) (by omega) (by first | omega | (simp; omega)) ?_; intro v' w6 ho' hg)
        obtain ⟨A6, c6, rfl⟩ := own_slice ho'
        have HO6 : Hid (OwnSt w6 w.heap.size (.slice A6 (2 + (k + 1)) c6) (2 + (k + 1)) ((tbL t).take (2 + (k + 1)))) := by
          unfold Hid
          rw [HSN.out, HJ.out]
          have e : (⟨#[115, 99, 104, 101, 109, 101, 32]⟩ ++ ⟨J.toArray⟩ : ByteArray) = mkB (wScheme ++ [32] ++ J) := ba_app (wScheme ++ [32]) J
          rw [e] at ho'
          exact ⟨by rw [List.length_append, ← HO.out.1]; rfl, by rw [List.flatMap_append]; exact ho'⟩
        have HB6 := Lib.hid (bP HB3.out HO3.out hg (Nat.le_refl _))
        have HZ6 := Lib.hid (HZ3.out.grown hg (own_blk HO3.out HZ3.out (by decide)))
        clear ho' hg
        go_wp2_with fail
        go_roundw
        case rel => exact ⟨k + 1, A6, c6, by omega, by go_num, rfl, HO6.out, HB6.out, HZ6.out⟩
        case measure => simp [intOf]; omega
      obtain rfl : k = ns := by omega
      have q0 := HZR.out.cell 1
      go_wp2_with fail
      clear q0 hk hk'
      go_loopw [3, 45] (fun cv ci wr => ∃ (k2 : Nat) (A1 : Option Addr) (c1 : Nat), k2 ≤ nc ∧ ci = .int .i64 k2 ∧ cv = .slice A1 (2 + k + k2) c1 ∧ Hid (OwnSt wr w.heap.size (.slice A1 (2 + k + k2) c1) (2 + k + k2) ((tbL t).take (2 + k + k2))) ∧ Below w.heap.size w wr ∧ Hid (Blk wr w.heap.size 26 #[.slice As k cs, .slice Ac nc cc, .slice Ak nk ck, .int .i64 lim, .int .i64 rnd])) (fun _ ci _ => nc - (intOf ci).toNat)
      case atStart => exact ⟨0, _, _, Nat.zero_le _, rfl, rfl, HO.out, hbl, HZR.out⟩
      clear HO hbl HZR HO5 HB5 HZ5
      case round =>
        obtain ⟨k2, A1, c1, hk', rfl, rfl, HO, hbl, HZR⟩ := hrel
        by_cases hk : k2 < nc
        case pos =>
          obtain ⟨b, off, rfl, hlt, hat⟩ := (HC.out.below hbl).2.2 (by omega)
          obtain ⟨c0, hszn, c1', ⟨A', n', c', c2, hbs⟩, c3, c4, c5⟩ := hat k2 hk
          have hmem : t.cts.getD k2 ct0 ∈ t.cts := getD_mem (by rw [← HNC.out]; exact hk)
          have HLL : Hid ((spJ (ctW (t.cts.getD k2 ct0))).length ≤ 500) := (tb_lines HN.out _ (by
            unfold tbW
            simp only [List.mem_cons, List.mem_append, List.mem_map]
            exact Or.inr (Or.inr (Or.inr (Or.inl ⟨_, hmem, rfl⟩))))).len
          have HSN : Hid ((tbL t).take (2 + k + (k2 + 1)) = (tbL t).take (2 + k + k2) ++ [mkB (spJ (ctW (t.cts.getD k2 ct0)))]) := by
            have := tbL_c t k2 (by rw [← HNC.out]; exact hk)
            rw [← HNS.out] at this
            exact this
          have hox := HOK.out.cts k2 (by rw [← HNC.out]; exact hk)
          clear hat hmem
          generalize t.cts.getD k2 ct0 = x at *
          obtain ⟨nm, base, bands, pc, yc, rd⟩ := x
          dsimp only at c0 c1' c2 c3 c4 c5 hszn hbs
          obtain ⟨hnm, hba, hrd, hpc, hyc, hbd⟩ := hox
          dsimp only at hnm hba hrd hpc hyc hbd
          have hg := goodB bands hbd
          have hlo := hg.lo
          have hhi := hg.hi
          have hnx : n' = bands.length := hbs.1
          have HX1 : Hid (1 ≤ n' ∧ n' ≤ 8 ∧ n' = bands.length) := ⟨by omega, by omega, hnx⟩
          have z := Blk.mk wr 46 #[.string nm, .int .i64 base, .slice A' n' c', .int .i64 pc, .int .i64 yc, .int .i64 rd]
          have HBW2 := Lib.hid (bA hbl (.cells #[.string nm, .int .i64 base, .slice A' n' c', .int .i64 pc, .int .i64 yc, .int .i64 rd] 46))
          have KB : Hid (∀ W, Below ((wr.alloc (.cells #[.string nm, .int .i64 base, .slice A' n' c', .int .i64 pc, .int .i64 yc, .int .i64 rd] 46))).heap.size (wr.alloc (.cells #[.string nm, .int .i64 base, .slice A' n' c', .int .i64 pc, .int .i64 yc, .int .i64 rd] 46)) W → Calls Tryz.prog 26 #[.slice A' n' c', .bool true] W (GivesSt n' (bdsT true bands) W)) := fun W h => tbands_c A' n' c' bands true W (hbs.below ((below1 wr _).trans (h.mono (by rw [World.size_alloc]; exact Nat.le_succ _)))) (fun k hk => band_ok hbd _ (getD_mem (by omega))) (by omega) (HT.out.t (bT HBW2.out h))
          have KM : Hid (∀ W, TabS W → Calls Tryz.prog 24 #[.int .i64 rd] W fun e w' => e = .returned (.string (modeN rd)) ∧ Below W.heap.size W w') := fun W h => tmodeName_c rd W h
          have KP : Hid (∀ W, Tab W → Calls Tryz.prog 27 #[.int .i64 pc] W fun e w' => e = .returned (.string ⟨(textB pc).toArray⟩) ∧ Below W.heap.size W w') := fun W h => text_c pc W (by omega) (by omega) h
          have KY : Hid (∀ W, Tab W → Calls Tryz.prog 27 #[.int .i64 yc] W fun e w' => e = .returned (.string ⟨(textB yc).toArray⟩) ∧ Below W.heap.size W w') := fun W h => text_c yc W (by omega) (by omega) h
          have HJC : Hid (∀ B, B = mkB (if base = 2 then wSocial else wTaxable) → Lib.join (([mkB wContrib, nm, B, modeN rd, mkB (textB pc), mkB (textB yc)] ++ bdsT true bands).map (·.data.toList)) [32] = spJ (ctW ⟨nm, base, bands, pc, yc, rd⟩)) := fun B h => spJ_ct ⟨nm, base, bands, pc, yc, rd⟩ B _ h rfl
          have G : Hid (∀ W, Below ((wr.alloc (.cells #[.string nm, .int .i64 base, .slice A' n' c', .int .i64 pc, .int .i64 yc, .int .i64 rd] 46))).heap.size (wr.alloc (.cells #[.string nm, .int .i64 base, .slice A' n' c', .int .i64 pc, .int .i64 yc, .int .i64 rd] 46)) W → Below ((wr.alloc (.cells #[.string nm, .int .i64 base, .slice A' n' c', .int .i64 pc, .int .i64 yc, .int .i64 rd] 46))).heap.size (wr.alloc (.cells #[.string nm, .int .i64 base, .slice A' n' c', .int .i64 pc, .int .i64 yc, .int .i64 rd] 46)) W ∧ (W.cell? ⟨wr.heap.size, 0, none⟩ = some (.string nm) ∧ W.cell? ⟨wr.heap.size, 5, none⟩ = some (.int .i64 rd) ∧ W.cell? ⟨wr.heap.size, 3, none⟩ = some (.int .i64 pc) ∧ W.cell? ⟨wr.heap.size, 4, none⟩ = some (.int .i64 yc)) ∧ Tab W ∧ TabS W) := fun W hW => ⟨hW, ⟨(z.t hW).cell 0, (z.t hW).cell 5, (z.t hW).cell 3, (z.t hW).cell 4⟩, HT.out.t (bT HBW2.out hW), HT2.out.t (bT HBW2.out hW)⟩
          have HQ := Lib.hid z
          generalize hWL : spJ (ctW ⟨nm, base, bands, pc, yc, rd⟩) = WL at *
          generalize modeN rd = M at *
          generalize textB pc = P at *
          generalize textB yc = Y at *
          have HO0 := Lib.hid (HO.out.2.alloc (.cells #[.string nm, .int .i64 base, .slice A' n' c', .int .i64 pc, .int .i64 yc, .int .i64 rd] 46))
          have HO1 := Lib.hid HO.out.1
          have HOW := Lib.hid HO.out.2
          have HZ0 := Lib.hid (HZR.out.alloc (.cells #[.string nm, .int .i64 base, .slice A' n' c', .int .i64 pc, .int .i64 yc, .int .i64 rd] 46))
          have q1 := z.cell 1
          have hszw := hbl.size
          have hszz := HLL.out
          clear hWL hnm hrd hpc hyc hbd hg hlo hhi hnx z hbs HO HZR hbl
          obtain ⟨tb, BW, hbw, hbb⟩ : ∃ (tb : Bool) (BW : ByteArray), (base == 2) = tb ∧ BW = (if tb = true then mkB wSocial else mkB wTaxable) := ⟨_, _, rfl, rfl⟩
          have HBB : Hid (BW = mkB (if base = 2 then wSocial else wTaxable)) := by
            unfold Hid
            rw [hbb, ← hbw]
            rcases hba with rfl | rfl <;> rfl
          clear hba
          cases tb
          case false =>
            simp only [Bool.false_eq_true] at hbb
            rw [if_neg not_false] at hbb
            subst hbb
            go_wp2_with fail
            clear q1
            go_region_held3 (fun W => Below ((wr.alloc (.cells #[.string nm, .int .i64 base, .slice A' n' c', .int .i64 pc, .int .i64 yc, .int .i64 rd] 46))).heap.size (wr.alloc (.cells #[.string nm, .int .i64 base, .slice A' n' c', .int .i64 pc, .int .i64 yc, .int .i64 rd] 46)) W ∧ (W.cell? ⟨wr.heap.size, 0, none⟩ = some (.string nm) ∧ W.cell? ⟨wr.heap.size, 5, none⟩ = some (.int .i64 rd) ∧ W.cell? ⟨wr.heap.size, 3, none⟩ = some (.int .i64 pc) ∧ W.cell? ⟨wr.heap.size, 4, none⟩ = some (.int .i64 yc)) ∧ Tab W ∧ TabS W)
              (first | assumption | exact G.out _ (b0 _).drew | (exact sK G.out (by assumption) (by assumption)) | (exact sK G.out (by assumption) (below1 _ _)))
              (first | (go_at_call 24; (with_reducible refine (KM.out _ (show Below _ _ _ ∧ _ ∧ Tab _ ∧ _ from by assumption).2.2.2).mono ?_); rintro e wy ⟨rfl, hb1⟩) | (go_at_call 27; (with_reducible refine (KP.out _ (show Below _ _ _ ∧ _ ∧ Tab _ ∧ _ from by assumption).2.2.1).mono ?_); rintro e wy ⟨rfl, hb1⟩) | (go_at_call 27; (with_reducible refine (KY.out _ (show Below _ _ _ ∧ _ ∧ Tab _ ∧ _ from by assumption).2.2.1).mono ?_); rintro e wy ⟨rfl, hb1⟩))
            have hS := (show Below ((wr.alloc (.cells #[.string nm, .int .i64 base, .slice A' n' c', .int .i64 pc, .int .i64 yc, .int .i64 rd] 46))).heap.size (wr.alloc (.cells #[.string nm, .int .i64 base, .slice A' n' c', .int .i64 pc, .int .i64 yc, .int .i64 rd] 46)) _ ∧ _ from by assumption).1
            have hsy : wr.heap.size ≤ wy.heap.size := by
              have h1 := hS.size
              rw [World.size_alloc, World.size_alloc] at h1
              omega
            have HF : Hid ((Value.slice A1 (2 + k + k2) c1).ownBlock = none ∨ (Value.slice A1 (2 + k + k2) c1).ownBlock ≠ (Value.slice (some ⟨wy.heap.size, 0, none⟩) 6 6).ownBlock) := own_far HOW.out hsy
            have HH := Lib.hid (World.ownsRow_lit (e := 9) (size := 1) (base := w.heap.size) wy #[.string ⟨#[99, 111, 110, 116, 114, 105, 98]⟩, .string nm, .string ⟨#[116, 97, 120, 97, 98, 108, 101]⟩, .string M, .string ⟨P.toArray⟩, .string ⟨Y.toArray⟩] 6 (Nat.le_trans hszw hsy) (by decide) rfl)
            have HB3 := Lib.hid (bT HBW2.out hS)
            have HZ3 := Lib.hid (HZ0.out.t hS)
            have HQ3 := Lib.hid (HQ.out.t hS)
            have HO3 := Lib.hid (own_below HO0.out hS)
            have KB3 := Lib.hid (KB.out _ hS)
            clear hS hsy G KM KP KY KB
            generalize (wy.alloc (.cells #[.string ⟨#[99, 111, 110, 116, 114, 105, 98]⟩, .string nm, .string ⟨#[116, 97, 120, 97, 98, 108, 101]⟩, .string M, .string ⟨P.toArray⟩, .string ⟨Y.toArray⟩] 9)) = wb at *
            generalize wy.heap.size = g2 at *
            have q2 := HQ3.out.cell 2
            go_wp2_with fail
            refine KB3.out.mono ?_
            rintro e wc ⟨⟨v, rfl, hov⟩, hb2⟩
            obtain ⟨A2, c2', rfl⟩ := own_slice hov.2
            have HSRC := Lib.hid (own_src hov.2)
            have HLB := Lib.hid hov.1
            have HH4 := Lib.hid (own_below HH.out hb2)
            have HB4 := Lib.hid (bT HB3.out hb2)
            have HZ4 := Lib.hid (HZ3.out.t hb2)
            have HO4 := Lib.hid (own_below HO3.out hb2)
            have hsz4 := HB4.out.size
            have hx1 := HX1.out.2.1
            clear hb2 KB3 q2 hov
            go_wp2_with (at_builtin; refine wpList_appN _ rfl _ _ 33 rfl 9 _ 1 16 Tryz.underlying33 info_str rfl (by decide) rfl HH4.out A2 n' c2' _ rfl HSRC.out st_one (by omega) (by omega) (by first | omega | (simp; omega)) ?_; intro v5 w5 ho5 hg5)
            obtain ⟨A5, c5', rfl⟩ := own_slice ho5
            have hl5 : 6 + n' = ([mkB wContrib, nm, mkB wTaxable, M, mkB P, mkB Y] ++ bdsT true bands).length := by
              rw [List.length_append, ← HLB.out]; rfl
            have ho5' := ho5
            rw [show #[Value.string ⟨#[99, 111, 110, 116, 114, 105, 98]⟩, .string nm, .string ⟨#[116, 97, 120, 97, 98, 108, 101]⟩, .string M, .string ⟨P.toArray⟩, .string ⟨Y.toArray⟩].toList ++ (bdsT true bands).flatMap stC = ([mkB wContrib, nm, mkB wTaxable, M, mkB P, mkB Y] ++ bdsT true bands).flatMap stC by rw [List.flatMap_append]; rfl] at ho5'
            obtain ⟨A7, c7, he7, hnc7, hst7⟩ := own_sl stC 1 st0 stC_len ho5' hl5 (by decide)
            injection he7 with y1 _ y2
            subst y1; subst y2
            have KJ := Lib.hid (join_c ⟨#[32]⟩ A5 (6 + n') c5' _ w5 hst7 hnc7 (by omega) (by omega) WL (HJC.out _ HBB.out) (by omega))
            have HO5 := Lib.hid (HO4.out.kept hg5 HF.out)
            have HB5 := Lib.hid (bP HB4.out HH4.out hg5 (Nat.le_refl _))
            have HZ5 := Lib.hid (HZ4.out.grown hg5 (own_blk HH4.out HZ4.out (by decide)))
            clear ho5 ho5' hg5 hl5 hnc7 hst7
            go_wp2_with fail
            refine KJ.out.mono ?_
            rintro e w6 ⟨rfl, hb6⟩
            have HO6 := Lib.hid (own_below HO5.out hb6)
            have HB6 := Lib.hid (bT HB5.out hb6)
            have HZ6 := Lib.hid (HZ5.out.t hb6)
            have hsz6 := HB6.out.size
            clear hb6 KJ
            go_wp2_with (at_builtin; refine wpList_app1 _ rfl _ _ 33 rfl 9 _ 1 16 Tryz.underlying33 info_str rfl (by decide) rfl HO6.out _ rfl (by first | rfl | simp) rfl (by simp [Value.oneCell']) (by omega) (by omega) (by first | omega | (simp; omega)) ?_; intro v' w7 ho' hg)
            obtain ⟨A9, c9, rfl⟩ := own_slice ho'
            have HO7 : Hid (OwnSt w7 w.heap.size (.slice A9 (2 + k + (k2 + 1)) c9) (2 + k + (k2 + 1)) ((tbL t).take (2 + k + (k2 + 1)))) := by
              unfold Hid
              rw [HSN.out]
              exact ⟨by rw [List.length_append, ← HO1.out]; rfl, by rw [List.flatMap_append]; exact ho'⟩
            have HB7 := Lib.hid (bP HB6.out HO6.out hg (Nat.le_refl _))
            have HZ7 := Lib.hid (HZ6.out.grown hg (own_blk HO6.out HZ6.out (by decide)))
            clear ho' hg
            go_wp2_with fail
            go_roundw
            case rel => exact ⟨k2 + 1, A9, c9, by omega, by go_num, rfl, HO7.out, HB7.out, HZ7.out⟩
            case measure => simp [intOf]; omega
          case true =>
            rw [if_pos rfl] at hbb
            subst hbb
            go_wp2_with fail
            clear q1
            go_region_held3 (fun W => Below ((wr.alloc (.cells #[.string nm, .int .i64 base, .slice A' n' c', .int .i64 pc, .int .i64 yc, .int .i64 rd] 46))).heap.size (wr.alloc (.cells #[.string nm, .int .i64 base, .slice A' n' c', .int .i64 pc, .int .i64 yc, .int .i64 rd] 46)) W ∧ (W.cell? ⟨wr.heap.size, 0, none⟩ = some (.string nm) ∧ W.cell? ⟨wr.heap.size, 5, none⟩ = some (.int .i64 rd) ∧ W.cell? ⟨wr.heap.size, 3, none⟩ = some (.int .i64 pc) ∧ W.cell? ⟨wr.heap.size, 4, none⟩ = some (.int .i64 yc)) ∧ Tab W ∧ TabS W)
              (first | assumption | exact G.out _ (b0 _).drew | (exact sK G.out (by assumption) (by assumption)) | (exact sK G.out (by assumption) (below1 _ _)))
              (first | (go_at_call 24; (with_reducible refine (KM.out _ (show Below _ _ _ ∧ _ ∧ Tab _ ∧ _ from by assumption).2.2.2).mono ?_); rintro e wy ⟨rfl, hb1⟩) | (go_at_call 27; (with_reducible refine (KP.out _ (show Below _ _ _ ∧ _ ∧ Tab _ ∧ _ from by assumption).2.2.1).mono ?_); rintro e wy ⟨rfl, hb1⟩) | (go_at_call 27; (with_reducible refine (KY.out _ (show Below _ _ _ ∧ _ ∧ Tab _ ∧ _ from by assumption).2.2.1).mono ?_); rintro e wy ⟨rfl, hb1⟩))
            have hS := (show Below ((wr.alloc (.cells #[.string nm, .int .i64 base, .slice A' n' c', .int .i64 pc, .int .i64 yc, .int .i64 rd] 46))).heap.size (wr.alloc (.cells #[.string nm, .int .i64 base, .slice A' n' c', .int .i64 pc, .int .i64 yc, .int .i64 rd] 46)) _ ∧ _ from by assumption).1
            have hsy : wr.heap.size ≤ wy.heap.size := by
              have h1 := hS.size
              rw [World.size_alloc, World.size_alloc] at h1
              omega
            have HF : Hid ((Value.slice A1 (2 + k + k2) c1).ownBlock = none ∨ (Value.slice A1 (2 + k + k2) c1).ownBlock ≠ (Value.slice (some ⟨wy.heap.size, 0, none⟩) 6 6).ownBlock) := own_far HOW.out hsy
            have HH := Lib.hid (World.ownsRow_lit (e := 9) (size := 1) (base := w.heap.size) wy #[.string ⟨#[99, 111, 110, 116, 114, 105, 98]⟩, .string nm, .string ⟨#[115, 111, 99, 105, 97, 108]⟩, .string M, .string ⟨P.toArray⟩, .string ⟨Y.toArray⟩] 6 (Nat.le_trans hszw hsy) (by decide) rfl)
            have HB3 := Lib.hid (bT HBW2.out hS)
            have HZ3 := Lib.hid (HZ0.out.t hS)
            have HQ3 := Lib.hid (HQ.out.t hS)
            have HO3 := Lib.hid (own_below HO0.out hS)
            have KB3 := Lib.hid (KB.out _ hS)
            clear hS hsy G KM KP KY KB
            generalize (wy.alloc (.cells #[.string ⟨#[99, 111, 110, 116, 114, 105, 98]⟩, .string nm, .string ⟨#[115, 111, 99, 105, 97, 108]⟩, .string M, .string ⟨P.toArray⟩, .string ⟨Y.toArray⟩] 9)) = wb at *
            generalize wy.heap.size = g2 at *
            have q2 := HQ3.out.cell 2
            go_wp2_with fail
            refine KB3.out.mono ?_
            rintro e wc ⟨⟨v, rfl, hov⟩, hb2⟩
            obtain ⟨A2, c2', rfl⟩ := own_slice hov.2
            have HSRC := Lib.hid (own_src hov.2)
            have HLB := Lib.hid hov.1
            have HH4 := Lib.hid (own_below HH.out hb2)
            have HB4 := Lib.hid (bT HB3.out hb2)
            have HZ4 := Lib.hid (HZ3.out.t hb2)
            have HO4 := Lib.hid (own_below HO3.out hb2)
            have hsz4 := HB4.out.size
            have hx1 := HX1.out.2.1
            clear hb2 KB3 q2 hov
            go_wp2_with (at_builtin; refine wpList_appN _ rfl _ _ 33 rfl 9 _ 1 16 Tryz.underlying33 info_str rfl (by decide) rfl HH4.out A2 n' c2' _ rfl HSRC.out st_one (by omega) (by omega) (by first | omega | (simp; omega)) ?_; intro v5 w5 ho5 hg5)
            obtain ⟨A5, c5', rfl⟩ := own_slice ho5
            have hl5 : 6 + n' = ([mkB wContrib, nm, mkB wSocial, M, mkB P, mkB Y] ++ bdsT true bands).length := by
              rw [List.length_append, ← HLB.out]; rfl
            have ho5' := ho5
            rw [show #[Value.string ⟨#[99, 111, 110, 116, 114, 105, 98]⟩, .string nm, .string ⟨#[115, 111, 99, 105, 97, 108]⟩, .string M, .string ⟨P.toArray⟩, .string ⟨Y.toArray⟩].toList ++ (bdsT true bands).flatMap stC = ([mkB wContrib, nm, mkB wSocial, M, mkB P, mkB Y] ++ bdsT true bands).flatMap stC by rw [List.flatMap_append]; rfl] at ho5'
            obtain ⟨A7, c7, he7, hnc7, hst7⟩ := own_sl stC 1 st0 stC_len ho5' hl5 (by decide)
            injection he7 with y1 _ y2
            subst y1; subst y2
            have KJ := Lib.hid (join_c ⟨#[32]⟩ A5 (6 + n') c5' _ w5 hst7 hnc7 (by omega) (by omega) WL (HJC.out _ HBB.out) (by omega))
            have HO5 := Lib.hid (HO4.out.kept hg5 HF.out)
            have HB5 := Lib.hid (bP HB4.out HH4.out hg5 (Nat.le_refl _))
            have HZ5 := Lib.hid (HZ4.out.grown hg5 (own_blk HH4.out HZ4.out (by decide)))
            clear ho5 ho5' hg5 hl5 hnc7 hst7
            go_wp2_with fail
            refine KJ.out.mono ?_
            rintro e w6 ⟨rfl, hb6⟩
            have HO6 := Lib.hid (own_below HO5.out hb6)
            have HB6 := Lib.hid (bT HB5.out hb6)
            have HZ6 := Lib.hid (HZ5.out.t hb6)
            have hsz6 := HB6.out.size
            clear hb6 KJ
            go_wp2_with (at_builtin; refine wpList_app1 _ rfl _ _ 33 rfl 9 _ 1 16 Tryz.underlying33 info_str rfl (by decide) rfl HO6.out _ rfl (by first | rfl | simp) rfl (by simp [Value.oneCell']) (by omega) (by omega) (by first | omega | (simp; omega)) ?_; intro v' w7 ho' hg)
            obtain ⟨A9, c9, rfl⟩ := own_slice ho'
            have HO7 : Hid (OwnSt w7 w.heap.size (.slice A9 (2 + k + (k2 + 1)) c9) (2 + k + (k2 + 1)) ((tbL t).take (2 + k + (k2 + 1)))) := by
              unfold Hid
              rw [HSN.out]
              exact ⟨by rw [List.length_append, ← HO1.out]; rfl, by rw [List.flatMap_append]; exact ho'⟩
            have HB7 := Lib.hid (bP HB6.out HO6.out hg (Nat.le_refl _))
            have HZ7 := Lib.hid (HZ6.out.grown hg (own_blk HO6.out HZ6.out (by decide)))
            clear ho' hg
            go_wp2_with fail
            go_roundw
            case rel => exact ⟨k2 + 1, A9, c9, by omega, by go_num, rfl, HO7.out, HB7.out, HZ7.out⟩
            case measure => simp [intOf]; omega
        obtain rfl : k2 = nc := by omega
        have q0 := HZR.out.cell 2
        go_wp2_with fail
        clear q0 hk hk'
        go_loopw [3, 78] (fun cv ci wr => ∃ (k3 : Nat) (A1 : Option Addr) (c1 : Nat), k3 ≤ nk ∧ ci = .int .i64 k3 ∧ cv = .slice A1 (2 + k + k2 + k3) c1 ∧ Hid (OwnSt wr w.heap.size (.slice A1 (2 + k + k2 + k3) c1) (2 + k + k2 + k3) ((tbL t).take (2 + k + k2 + k3))) ∧ Below w.heap.size w wr) (fun _ ci _ => nk - (intOf ci).toNat)
        case atStart => exact ⟨0, _, _, Nat.zero_le _, rfl, rfl, HO.out, hbl⟩
        clear HO hbl HZR
        case round =>
          obtain ⟨k3, A1, c1, hk', rfl, rfl, HO, hbl⟩ := hrel
          by_cases hk : k3 < nk
          case neg =>
            obtain rfl : k3 = nk := by omega
            have HFIN : Hid ((tbL t).take (2 + k + k2 + k3) = tbL t ∧ 2 + k + k2 + k3 = (tbL t).length) := by
              have e : 2 + k + k2 + k3 = (tbL t).length := by have h1 := HLEN.out; have h2 := HNS.out; have h3 := HNC.out; have h4 := HNK.out; omega
              exact ⟨by rw [e, List.take_length], e⟩
            go_wp2_with fail
            go_ret
            refine ⟨Or.inl ⟨HN.out, _, rfl, ?_⟩, hbl⟩
            have h := HO.out
            rw [HFIN.out.1] at h
            rw [← HFIN.out.2]
            exact h
          obtain ⟨b, off, rfl, hlt, hat⟩ := (HK.out.below hbl).2.2 (by omega)
          obtain ⟨c0, hszn, c1', c2, c3⟩ := hat k3 hk
          have HSN : Hid ((tbL t).take (2 + k + k2 + (k3 + 1)) = (tbL t).take (2 + k + k2 + k3) ++ [mkB (spJ (kdW (t.kds.getD k3 kd0)))]) := by
            have := tbL_k t k3 (by rw [← HNK.out]; exact hk)
            rw [← HNS.out, ← HNC.out] at this
            exact this
          have hox := HOK.out.kds k3 (by rw [← HNK.out]; exact hk)
          have HW := Lib.hid (spJ_kd (t.kds.getD k3 kd0))
          clear hat
          generalize t.kds.getD k3 kd0 = x at *
          obtain ⟨nm, xc, xt, xs⟩ := x
          dsimp only at c0 c1' c2 c3 hszn
          obtain ⟨hnm, ⟨h1, h2⟩, ⟨h3, h4⟩, h5, h6⟩ := hox
          dsimp only at hnm h1 h2 h3 h4 h5 h6
          have hn16 : nm.size ≤ 16 := by
            have := (name_bare hnm).2
            rwa [← Lib.size_eq] at this
          have HE1 := Lib.hid (sg_ext xc ⟨h1, h2⟩)
          have HE2 := Lib.hid (sg_ext xt ⟨h3, h4⟩)
          have HE3 := Lib.hid (sg_ext xs ⟨h5, h6⟩)
          have i0 : ∀ w, (Instr.index 65 (.agg #[.int .i64 xc, .int .i64 xt, .int .i64 xs]) (.int .i64 0)).run Tryz.prog w = .ok (.int .i64 xc) w := fun _ => by kernel_rfl
          have i1 : ∀ w, (Instr.index 65 (.agg #[.int .i64 xc, .int .i64 xt, .int .i64 xs]) (.int .i64 1)).run Tryz.prog w = .ok (.int .i64 xt) w := fun _ => by kernel_rfl
          have i2 : ∀ w, (Instr.index 65 (.agg #[.int .i64 xc, .int .i64 xt, .int .i64 xs]) (.int .i64 2)).run Tryz.prog w = .ok (.int .i64 xs) w := fun _ => by kernel_rfl
          have HOA := Lib.hid (HO.out.2.alloc (.cells #[.string nm, .int .i64 xc, .int .i64 xt, .int .i64 xs] 56))
          have HBA := Lib.hid (bA hbl (.cells #[.string nm, .int .i64 xc, .int .i64 xt, .int .i64 xs] 56))
          have HO1 := Lib.hid HO.out.1
          have hsw := HBA.out.size
          clear hnm hbl HO
          go_wp2_with fail
          refine wp_loop_rounds 4 ?_
          rw [rounds_succ]
          go_wp2_with fail
          rw [rounds_succ]
          go_wp2_with fail
          rw [rounds_succ]
          go_wp2_with fail
          rw [rounds_succ]
          go_wp2_with (at_builtin; refine wpList_app1 _ rfl _ _ 33 rfl 9 _ 1 16 Tryz.underlying33 info_str rfl (by decide) rfl HOA.out _ rfl (by first | rfl | simp) rfl (by simp [Value.oneCell']) (by omega) (by omega) (by first | omega | (simp; omega)) ?_; intro v' w7 ho' hg)
          obtain ⟨A9, c9, rfl⟩ := own_slice ho'
          have HO7 : Hid (OwnSt w7 w.heap.size (.slice A9 (2 + k + k2 + (k3 + 1)) c9) (2 + k + k2 + (k3 + 1)) ((tbL t).take (2 + k + k2 + (k3 + 1)))) := by
            unfold Hid
            rw [HSN.out]
            rw [HE1.out, HE2.out, HE3.out, kd_line] at ho'
            exact ⟨by rw [List.length_append, ← HO1.out]; rfl, by rw [List.flatMap_append]; exact ho'⟩
          have HB7 := Lib.hid (bP HBA.out HOA.out hg (Nat.le_refl _))
          clear ho' hg
          go_wp2_with fail
          go_roundw
          case rel => exact ⟨k3 + 1, A9, c9, by omega, by go_num, rfl, HO7.out, HB7.out⟩
          case measure => simp [intOf]; omega
--%%
theorem tlines_c (t : Tb) (As Ac Ak : Option Addr) (ns cs nc cc nk ck : Nat) (w : World) (ht : TbIn w t.sch t.cts t.kds As Ac Ak ns cs nc cc nk ck) (htab : Tab w) (htab2 : TabS w) :
    Calls Tryz.prog 8 #[tbV As Ac Ak ns cs nc cc nk ck t.lim t.rnd] w (LinesR t w) := by
  by_cases h : tbE t = 0
  · exact lines_yes t As Ac Ak ns cs nc cc nk ck t.lim t.rnd w ht rfl rfl h htab htab2
  · exact lines_no t As Ac Ak ns cs nc cc nk ck t.lim t.rnd w ht rfl rfl h
--%%
end Go.Proofs.YtcngmajkkhipoaaGreatDoor
