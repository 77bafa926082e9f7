/-
 Contracts of table.contribs, table.kinds and table.schemes, exact. Conditions as named.
-/
import Derived.Test.YtiaabmhjkoohmaaGreatM1
namespace Go.Proofs.YtiaabmhjkoohmaaGreat
set_option maxRecDepth 100000
set_option maxHeartbeats 25600000
set_option linter.unusedVariables false
set_option linter.unusedSimpArgs false
open Go.RowKit Tryz
open Lib (hid)
theorem xcontribs_c (l : List Ct) (As Ac Ak : Option Addr) (ns cs nc cc nk ck : Nat) (lim rnd : Int) (w : World) (hs : CtSl w Ac nc l) (hcap : nc ≤ cc) (r : Int) (hr : Hid (r = ctsE l)) :
  Calls prog 168 #[.agg #[.slice As ns cs, .slice Ac nc cc, .slice Ak nk ck, .int .i64 lim, .int .i64 rnd]] w fun e w' => e = .returned (.int .i64 r) ∧ Below w.heap.size w w' := by
 have HN : Hid (nc = l.length) := hs.1
 by_cases h6 : 6 < nc
 ·
  have h6' : (6 : Int) < (nc : Int) := by omega
  have HE : Hid (r = 2) := hr.out.trans (by have := HN.out; unfold ctsE; rw [if_pos (by omega)])
  go_enter func168, ntmps168
  go_wp2_with fail
  go_ret
  exact ⟨by rw [HE.out] <;> rfl, bz1 _ _⟩
 have h6' : ¬ (6 : Int) < (nc : Int) := by omega
 have HS := hid hs
 have HF : Hid (r = fz9 (ctsF l) nc) := hr.out.trans (by have := HN.out; unfold ctsE; rw [if_neg (by omega), HN.out])
 go_enter func168, ntmps168
 go_wp2_with fail
 go_loopw [13] (fun i wr => ∃ k : Nat, k ≤ nc ∧ i = .int .i64 k ∧ Hid (fz9 (ctsF l) k = 0) ∧ Below w.heap.size w wr ∧ Blk wr w.heap.size 26 #[.slice As ns cs, .slice Ac nc cc, .slice Ak nk ck, .int .i64 lim, .int .i64 rnd]) (fun i _ => nc - (intOf i).toNat)
 case atStart => exact ⟨0, Nat.zero_le _, rfl, rfl, bz1 _ _, Blk.mk _ _ _⟩
 case round =>
  obtain ⟨k, hk', rfl, hok, hbl, z⟩ := hrel
  by_cases hk : k < nc
  case neg =>
   have HE : Hid (r = 0) := HF.out.trans (by rw [show nc = k by omega]; exact hok.out)
   go_wp2_with fail
   go_ret
   exact ⟨by rw [HE.out] <;> rfl, hbl⟩
  have hsr := HS.out.below hbl
  obtain ⟨b, off, rfl, hlt, hat⟩ := hsr.2.2 (by omega)
  obtain ⟨c0, hsz, c1, ⟨A', n', c', c2, hbs⟩, c3, c4, c5⟩ := hat k hk
  obtain ⟨z0, z1, z2, z3, z4⟩ := z.all5
  have hzl := z.lt
  have HST : Hid (∀ v, ctE (l.take k) (l.getD k ct0) = v → v ≠ 0 → r = v) := fun v h h0 => HF.out.trans ((fS9 _ k _ hok.out (by unfold ctsF; rw [h]; exact h0) hk).trans h)
  have HGO : Hid (ctE (l.take k) (l.getD k ct0) = 0 → fz9 (ctsF l) (k + 1) = 0) := fun h => ft9 _ _ hok.out h
  have HR := hid hsr
  clear hat hsr hs
  generalize l.getD k ct0 = x at *
  have HU : Hid (∀ y, ctE (l.take k) y = if nameB y.nm = false then 5 else if 0 ≤ nmX Ct.nm (l.take k) y.nm then 4 else if y.base ≠ 1 ∧ y.base ≠ 2 then 1 else if modeB y.rd = false then 1 else if y.pc < 0 then 1 else if 100000000000 < y.pc then 1 else if y.yc < 0 then 1 else if 100000000000 < y.yc then 1 else bE9 y.bands) := fun y => rfl
  obtain ⟨nm, base, bands, pc, yc, rd⟩ := x
  simp only at c0 c1 c2 c3 c4 c5 hsz hbs
  cases hnm : nameB nm
  ·
   have HE : Hid (r = 5) := HST.out 5 (by rw [HU.out]; simp [hnm]) (by decide)
   go_wp2_with fail
   refine (name_c nm _ hsz).mono ?_
   rintro e w' ⟨rfl, rfl⟩
   go_wp2_with fail
   go_ret
   exact ⟨by rw [HE.out] <;> rfl, hbl.alloc hbl.size _⟩
  have HNM := hid hnm
  obtain ⟨bb, hbb⟩ : ∃ bb, bb = decide (0 ≤ nmX Ct.nm (l.take k) nm) := ⟨_, rfl⟩
  have KC : Hid (Calls prog 188 #[.slice (some ⟨b, off, none⟩) k cc, .func (.func 189) #[] #[.pointer (some ⟨wr.heap.size, 0, none⟩)]] (wr.alloc (.cells #[.string nm, .int .i64 base, .slice A' n' c', .int .i64 pc, .int .i64 yc, .int .i64 rd] 195)) fun e w' => e = .returned (.bool bb) ∧ Below (wr.alloc (.cells #[.string nm, .int .i64 base, .slice A' n' c', .int .i64 pc, .int .i64 yc, .int .i64 rd] 195)).heap.size (wr.alloc (.cells #[.string nm, .int .i64 base, .slice A' n' c', .int .i64 pc, .int .i64 yc, .int .i64 rd] 195)) w') := by
   rw [hbb]
   exact xcontains_contribs (l.take k) _ k cc _ nm _ ((SlOf.take HR.out k (by omega)).below (fun b off x hx hlt => hx.below hlt (bz1 _ _)) (bz1 _ _)) (by simp) (by simp)
  have HBB := hid hbb
  clear hbb
  cases bb
  case true =>
   have HE : Hid (r = 4) := HST.out 4 (by rw [HU.out]; simp [HNM.out, of_decide_eq_true HBB.out.symm]) (by decide)
   go_wp2_with fail
   refine (name_c nm _ hsz).mono ?_
   rintro e w' ⟨rfl, rfl⟩
   go_wp2_with fail
   refine KC.out.mono ?_
   rintro e w1 ⟨rfl, hb1⟩
   have b1 : Below w.heap.size w w1 := (hbl.alloc hbl.size _).trans (hb1.mono (by have := hbl.size; simp; omega))
   go_wp2_with fail
   go_ret
   exact ⟨by rw [HE.out] <;> rfl, b1⟩
  have HIN : Hid (nmX Ct.nm (l.take k) nm < 0) := Int.not_le.1 (of_decide_eq_false HBB.out.symm)
  go_wp2_with fail
  refine (name_c nm _ hsz).mono ?_
  rintro e w' ⟨rfl, rfl⟩
  go_wp2_with fail
  refine KC.out.mono ?_
  rintro e w1 ⟨rfl, hb1⟩
  have b1 : Below w.heap.size w w1 := (hbl.alloc hbl.size _).trans (hb1.mono (by have := hbl.size; simp; omega))
  have zz := (z.alloc _).below hb1 (by simp; omega)
  have cb := (Blk.mk wr _ _).below hb1 (by simp)
  obtain ⟨y0, y1, y2, y3, y4⟩ := zz.all5
  obtain ⟨q0, q1, q2, q3, q4, q5⟩ := cb.all6
  have hbs1 := hbs.below ((bz1 wr _).trans (hb1.mono (by simp)))
  by_cases e1 : base = 1 ∨ base = 2
  case neg =>
   have HE : Hid (r = 1) := HST.out 1 (by rw [HU.out]; simp only [HNM.out, if_neg (Int.not_le.2 HIN.out)]; rw [if_neg (by decide), if_pos (by omega)]) (by decide)
   have t1 : (base != 1) = true := by simp; omega
   have t2 : (base != 2) = true := by simp; omega
   clear e1
   go_wp2_with fail
   go_ret
   exact ⟨by rw [HE.out] <;> rfl, b1⟩
  have HU2 : Hid (ctE (l.take k) ⟨nm, base, bands, pc, yc, rd⟩ = if modeB rd = false then 1 else if pc < 0 then 1 else if 100000000000 < pc then 1 else if yc < 0 then 1 else if 100000000000 < yc then 1 else bE9 bands) := by
   unfold Hid; rw [HU.out]; simp only [HNM.out, if_neg (Int.not_le.2 HIN.out)]; rw [if_neg (by decide), if_neg (by omega)]
  obtain ⟨r2, hr2⟩ : ∃ r2, r2 = bE9 bands := ⟨_, rfl⟩
  have HRR := hid hr2
  clear hr2
  have KB := hid (fun w h => bcheck_c bands A' n' c' w h r2 HRR)
  have E1 : Hid (base = 1 ∨ base = 2) := e1
  rcases e1 with e1 | e1
  all_goals
   subst e1
   cases hrd : modeB rd
   ·
    have HE : Hid (r = 1) := HST.out 1 (by rw [HU2.out]; simp [hrd]) (by decide)
    go_wp2_with fail
    refine (mode_f rd hrd _).mono ?_
    rintro e w' ⟨rfl, rfl⟩
    go_wp2_with fail
    go_ret
    exact ⟨by rw [HE.out] <;> rfl, b1⟩
   have HRD := hid hrd
   by_cases d1 : pc < 0
   ·
    have HE : Hid (r = 1) := HST.out 1 (by rw [HU2.out, HRD.out]; simp [d1]) (by decide)
    go_wp2_with fail
    refine (mode_t rd hrd _).mono ?_
    rintro e w' ⟨rfl, rfl⟩
    go_wp2_with fail
    go_ret
    exact ⟨by rw [HE.out] <;> rfl, b1⟩
   by_cases d2 : 100000000000 < pc
   ·
    have HE : Hid (r = 1) := HST.out 1 (by rw [HU2.out, HRD.out]; simp [d1, d2]) (by decide)
    go_wp2_with fail
    refine (mode_t rd hrd _).mono ?_
    rintro e w' ⟨rfl, rfl⟩
    go_wp2_with fail
    go_ret
    exact ⟨by rw [HE.out] <;> rfl, b1⟩
   by_cases d3 : yc < 0
   ·
    have HE : Hid (r = 1) := HST.out 1 (by rw [HU2.out, HRD.out]; simp [d1, d2, d3]) (by decide)
    go_wp2_with fail
    refine (mode_t rd hrd _).mono ?_
    rintro e w' ⟨rfl, rfl⟩
    go_wp2_with fail
    go_ret
    exact ⟨by rw [HE.out] <;> rfl, b1⟩
   by_cases d4 : 100000000000 < yc
   ·
    have HE : Hid (r = 1) := HST.out 1 (by rw [HU2.out, HRD.out]; simp [d1, d2, d3, d4]) (by decide)
    go_wp2_with fail
    refine (mode_t rd hrd _).mono ?_
    rintro e w' ⟨rfl, rfl⟩
    go_wp2_with fail
    go_ret
    exact ⟨by rw [HE.out] <;> rfl, b1⟩
   have HU3 : Hid (ctE (l.take k) ⟨nm, _, bands, pc, yc, rd⟩ = r2) := HU2.out.trans (by rw [HRD.out]; simp [d1, d2, d3, d4, HRR.out])
   by_cases hr0 : r2 = 0
   ·
    subst hr0
    have HG := hid (HGO.out HU3.out)
    go_wp2_with fail
    refine (mode_t rd hrd _).mono ?_
    rintro e w' ⟨rfl, rfl⟩
    go_wp2_with fail
    refine (KB.out _ hbs1).mono ?_
    rintro e w2 ⟨rfl, hb2⟩
    go_wp2_with fail
    go_roundw
    case rel => exact ⟨k + 1, by omega, by go_num, HG.out, b1.trans (hb2.mono b1.size), zz.below hb2 zz.lt⟩
    case measure => simp [intOf]; omega
   ·
    have tr : (r2 != 0) = true := by simpa using hr0
    have HE : Hid (r = r2) := HST.out r2 HU3.out hr0
    clear hr0
    go_wp2_with fail
    refine (mode_t rd hrd _).mono ?_
    rintro e w' ⟨rfl, rfl⟩
    go_wp2_with fail
    refine (KB.out _ hbs1).mono ?_
    rintro e w2 ⟨rfl, hb2⟩
    go_wp2_with fail
    go_ret
    exact ⟨by rw [HE.out] <;> rfl, b1.trans (hb2.mono b1.size)⟩
theorem xkinds_c (l : List Kd) (As Ac Ak : Option Addr) (ns cs nc cc nk ck : Nat) (lim rnd : Int) (w : World) (hs : KdSl w Ak nk l) (hcap : nk ≤ ck) (r : Int) (hr : Hid (r = kdsE l)) :
  Calls prog 169 #[.agg #[.slice As ns cs, .slice Ac nc cc, .slice Ak nk ck, .int .i64 lim, .int .i64 rnd]] w fun e w' => e = .returned (.int .i64 r) ∧ Below w.heap.size w w' := by
 have HN : Hid (nk = l.length) := hs.1
 by_cases h0 : nk = 0
 ·
  have h0' : ((nk : Int) == 0) = true := by simp; omega
  have HE : Hid (r = 2) := hr.out.trans (by have := HN.out; unfold kdsE; rw [if_pos (by omega)])
  clear h0
  go_enter func169, ntmps169
  go_wp2_with fail
  go_ret
  exact ⟨by rw [HE.out] <;> rfl, bz1 _ _⟩
 have h0' : ((nk : Int) == 0) = false := by simp; omega
 by_cases h6 : 12 < nk
 ·
  have h6' : (12 : Int) < (nk : Int) := by omega
  have HE : Hid (r = 2) := hr.out.trans (by have := HN.out; unfold kdsE; rw [if_pos (by omega)])
  go_enter func169, ntmps169
  go_wp2_with fail
  go_ret
  exact ⟨by rw [HE.out] <;> rfl, bz1 _ _⟩
 have h6' : ¬ (12 : Int) < (nk : Int) := by omega
 have HS := hid hs
 have HF : Hid (r = fz9 (kdsF l) nk) := hr.out.trans (by have := HN.out; unfold kdsE; rw [if_neg (by omega), HN.out])
 go_enter func169, ntmps169
 go_wp2_with fail
 go_loopw [18] (fun i wr => ∃ k : Nat, k ≤ nk ∧ i = .int .i64 k ∧ Hid (fz9 (kdsF l) k = 0) ∧ Below w.heap.size w wr ∧ Blk wr w.heap.size 26 #[.slice As ns cs, .slice Ac nc cc, .slice Ak nk ck, .int .i64 lim, .int .i64 rnd]) (fun i _ => nk - (intOf i).toNat)
 case atStart => exact ⟨0, Nat.zero_le _, rfl, rfl, bz1 _ _, Blk.mk _ _ _⟩
 case round =>
  obtain ⟨k, hk', rfl, hok, hbl, z⟩ := hrel
  by_cases hk : k < nk
  case neg =>
   have HE : Hid (r = 0) := HF.out.trans (by rw [show nk = k by omega]; exact hok.out)
   go_wp2_with fail
   go_ret
   exact ⟨by rw [HE.out] <;> rfl, hbl⟩
  have hsr := HS.out.below hbl
  obtain ⟨b, off, rfl, hlt, hat⟩ := hsr.2.2 (by omega)
  obtain ⟨c0, hsz, c1, c2, c3⟩ := hat k hk
  obtain ⟨z0, z1, z2, z3, z4⟩ := z.all5
  have hzl := z.lt
  have HST : Hid (∀ v, kdE1 (l.take k) (l.getD k kd0) = v → v ≠ 0 → r = v) := fun v h h0 => HF.out.trans ((fS9 _ k _ hok.out (by unfold kdsF; rw [h]; exact h0) hk).trans h)
  have HGO : Hid (kdE1 (l.take k) (l.getD k kd0) = 0 → fz9 (kdsF l) (k + 1) = 0) := fun h => ft9 _ _ hok.out h
  have HR := hid hsr
  clear hat hsr hs
  generalize l.getD k kd0 = x at *
  have HU : Hid (∀ y, kdE1 (l.take k) y = if nameB y.nm = false then 5 else if 0 ≤ nmX Kd.nm (l.take k) y.nm then 4 else if decide (-1 ≤ y.c ∧ y.c ≤ 1) = false then 1 else if decide (-1 ≤ y.t ∧ y.t ≤ 1) = false then 1 else if decide (-1 ≤ y.s ∧ y.s ≤ 1) = false then 1 else 0) := fun y => rfl
  obtain ⟨nm, xc, xt, xs⟩ := x
  simp only at c0 c1 c2 c3 hsz
  cases hnm : nameB nm
  ·
   have HE : Hid (r = 5) := HST.out 5 (by rw [HU.out]; simp [hnm]) (by decide)
   go_wp2_with fail
   refine (name_c nm _ hsz).mono ?_
   rintro e w' ⟨rfl, rfl⟩
   go_wp2_with fail
   go_ret
   exact ⟨by rw [HE.out] <;> rfl, hbl.alloc hbl.size _⟩
  have HNM := hid hnm
  obtain ⟨bb, hbb⟩ : ∃ bb, bb = decide (0 ≤ nmX Kd.nm (l.take k) nm) := ⟨_, rfl⟩
  have KC : Hid (Calls prog 190 #[.slice (some ⟨b, off, none⟩) k ck, .func (.func 191) #[] #[.pointer (some ⟨wr.heap.size, 0, none⟩)]] (wr.alloc (.cells #[.string nm, .int .i64 xc, .int .i64 xt, .int .i64 xs] 148)) fun e w' => e = .returned (.bool bb) ∧ Below (wr.alloc (.cells #[.string nm, .int .i64 xc, .int .i64 xt, .int .i64 xs] 148)).heap.size (wr.alloc (.cells #[.string nm, .int .i64 xc, .int .i64 xt, .int .i64 xs] 148)) w') := by
   rw [hbb]
   exact xcontains_kinds (l.take k) _ k ck _ nm _ ((SlOf.take HR.out k (by omega)).below (fun b off x hx hlt => hx.below hlt (bz1 _ _)) (bz1 _ _)) (by simp) (by simp)
  have HBB := hid hbb
  clear hbb
  cases bb
  case true =>
   have HE : Hid (r = 4) := HST.out 4 (by rw [HU.out]; simp [HNM.out, of_decide_eq_true HBB.out.symm]) (by decide)
   go_wp2_with fail
   refine (name_c nm _ hsz).mono ?_
   rintro e w' ⟨rfl, rfl⟩
   go_wp2_with fail
   refine KC.out.mono ?_
   rintro e w1 ⟨rfl, hb1⟩
   have b1 : Below w.heap.size w w1 := (hbl.alloc hbl.size _).trans (hb1.mono (by have := hbl.size; simp; omega))
   go_wp2_with fail
   go_ret
   exact ⟨by rw [HE.out] <;> rfl, b1⟩
  have HIN : Hid (nmX Kd.nm (l.take k) nm < 0) := Int.not_le.1 (of_decide_eq_false HBB.out.symm)
  have HU2 : Hid (kdE1 (l.take k) ⟨nm, xc, xt, xs⟩ = if decide (-1 ≤ xc ∧ xc ≤ 1) = false then 1 else if decide (-1 ≤ xt ∧ xt ≤ 1) = false then 1 else if decide (-1 ≤ xs ∧ xs ≤ 1) = false then 1 else 0) := by
   unfold Hid; rw [HU.out]; simp only [HNM.out, if_neg (Int.not_le.2 HIN.out)]; rw [if_neg (by decide)]
  go_wp2_with fail
  refine (name_c nm _ hsz).mono ?_
  rintro e w' ⟨rfl, rfl⟩
  go_wp2_with fail
  refine KC.out.mono ?_
  rintro e w1 ⟨rfl, hb1⟩
  have b1 : Below w.heap.size w w1 := (hbl.alloc hbl.size _).trans (hb1.mono (by have := hbl.size; simp; omega))
  have zz := (z.alloc _).below hb1 (by simp; omega)
  have cb := (Blk.mk wr _ _).below hb1 (by simp)
  obtain ⟨y0, y1, y2, y3, y4⟩ := zz.all5
  obtain ⟨q0, q1, q2, q3⟩ := cb.all4
  cases e1 : decide (-1 ≤ xc ∧ xc ≤ 1)
  ·
   have HE : Hid (r = 1) := HST.out 1 (by rw [HU2.out, e1]; rfl) (by decide)
   go_wp2_with fail
   refine (sign_c xc _).mono ?_
   rw [e1]
   rintro e w' ⟨rfl, rfl⟩
   go_wp2_with fail
   go_ret
   exact ⟨by rw [HE.out] <;> rfl, b1⟩
  cases e2 : decide (-1 ≤ xt ∧ xt ≤ 1)
  ·
   have HE : Hid (r = 1) := HST.out 1 (by rw [HU2.out, e1, e2]; rfl) (by decide)
   go_wp2_with fail
   refine (sign_c xc _).mono ?_
   rw [e1]
   rintro e w' ⟨rfl, rfl⟩
   go_wp2_with fail
   refine (sign_c xt _).mono ?_
   rw [e2]
   rintro e w' ⟨rfl, rfl⟩
   go_wp2_with fail
   go_ret
   exact ⟨by rw [HE.out] <;> rfl, b1⟩
  cases e3 : decide (-1 ≤ xs ∧ xs ≤ 1)
  ·
   have HE : Hid (r = 1) := HST.out 1 (by rw [HU2.out, e1, e2, e3]; rfl) (by decide)
   go_wp2_with fail
   refine (sign_c xc _).mono ?_
   rw [e1]
   rintro e w' ⟨rfl, rfl⟩
   go_wp2_with fail
   refine (sign_c xt _).mono ?_
   rw [e2]
   rintro e w' ⟨rfl, rfl⟩
   go_wp2_with fail
   refine (sign_c xs _).mono ?_
   rw [e3]
   rintro e w' ⟨rfl, rfl⟩
   go_wp2_with fail
   go_ret
   exact ⟨by rw [HE.out] <;> rfl, b1⟩
  have HG := hid (HGO.out (by rw [HU2.out, e1, e2, e3]; rfl))
  go_wp2_with fail
  refine (sign_c xc _).mono ?_
  rw [e1]
  rintro e w' ⟨rfl, rfl⟩
  go_wp2_with fail
  refine (sign_c xt _).mono ?_
  rw [e2]
  rintro e w' ⟨rfl, rfl⟩
  go_wp2_with fail
  refine (sign_c xs _).mono ?_
  rw [e3]
  rintro e w' ⟨rfl, rfl⟩
  go_wp2_with fail
  go_roundw
  case rel => exact ⟨k + 1, by omega, by go_num, HG.out, b1, zz⟩
  case measure => simp [intOf]; omega
theorem xschemes_c (l : List (List Bd)) (As Ac Ak : Option Addr) (ns cs nc cc nk ck : Nat) (lim rnd : Int) (w : World) (hs : ScSl w As ns l) (r : Int) (hr : Hid (r = scsE l)) :
  Calls prog 167 #[.agg #[.slice As ns cs, .slice Ac nc cc, .slice Ak nk ck, .int .i64 lim, .int .i64 rnd]] w fun e w' => e = .returned (.int .i64 r) ∧ Below w.heap.size w w' := by
 have HNS : Hid (ns = l.length) := hs.1
 by_cases h0 : ns = 0
 ·
  have h0' : ((ns : Int) == 0) = true := by simp; omega
  have HE : Hid (r = 2) := hr.out.trans (by have := HNS.out; unfold scsE; rw [if_pos (by omega)])
  clear h0
  go_enter func167, ntmps167
  go_wp2_with fail
  go_ret
  exact ⟨by rw [HE.out] <;> rfl, bz1 _ _⟩
 have h0' : ((ns : Int) == 0) = false := by simp; omega
 by_cases h6 : 8 < ns
 ·
  have h6' : (8 : Int) < (ns : Int) := by omega
  have HE : Hid (r = 2) := hr.out.trans (by have := HNS.out; unfold scsE; rw [if_pos (by omega)])
  go_enter func167, ntmps167
  go_wp2_with fail
  go_ret
  exact ⟨by rw [HE.out] <;> rfl, bz1 _ _⟩
 have h6' : ¬ (8 : Int) < (ns : Int) := by omega
 have HS := hid hs
 have HF : Hid (r = fz9 (scsF l) ns) := hr.out.trans (by have := HNS.out; unfold scsE; rw [if_neg (by omega), HNS.out])
 go_enter func167, ntmps167
 go_wp2_with fail
 go_loopw [21] (fun i wr => ∃ k : Nat, k ≤ ns ∧ i = .int .i64 k ∧ Hid (fz9 (scsF l) k = 0) ∧ Below w.heap.size w wr) (fun i _ => ns - (intOf i).toNat)
 case atStart => exact ⟨0, Nat.zero_le _, rfl, rfl, bz1 _ _⟩
 case round =>
  obtain ⟨k, hk', rfl, hok, hbl⟩ := hrel
  obtain ⟨wo, rfl⟩ : ∃ wo : World, wo = wr := ⟨_, rfl⟩
  by_cases hk : k < ns
  case neg =>
   have HE : Hid (r = 0) := HF.out.trans (by rw [show ns = k by omega]; exact hok.out)
   go_wp2_with fail
   go_ret
   exact ⟨by rw [HE.out] <;> rfl, hbl⟩
  have hsr := HS.out.below hbl
  obtain ⟨b, off, rfl, hlt, hat⟩ := hsr.2.2 (by omega)
  obtain ⟨A', n', c', c0, hbs⟩ := hat k hk
  simp only [Nat.mul_one] at c0
  have HST : Hid (∀ v, scE1 (l.getD k []) = v → v ≠ 0 → r = v) := fun v h h0 => HF.out.trans ((fS9 _ k _ hok.out (by unfold scsF; rw [h]; exact h0) hk).trans h)
  have HGO : Hid (scE1 (l.getD k []) = 0 → fz9 (scsF l) (k + 1) = 0) := fun h => ft9 _ _ hok.out h
  clear hat hsr hs
  generalize l.getD k [] = x at *
  obtain ⟨r2, hr2⟩ : ∃ r2, r2 = bE9 x := ⟨_, rfl⟩
  have HRR := hid hr2
  clear hr2
  have KB := hid (fun w h => bcheck_c x A' n' c' w h r2 HRR)
  by_cases hr0 : r2 = 0
  case neg =>
   have tr : (r2 != 0) = true := by simpa using hr0
   have HE : Hid (r = r2) := HST.out r2 (by unfold scE1; rw [if_pos (by rw [← HRR.out]; exact hr0), HRR.out]) hr0
   clear hr0
   go_wp2_with fail
   refine (KB.out _ hbs).mono ?_
   rintro e w2 ⟨rfl, hb2⟩
   go_wp2_with fail
   go_ret
   exact ⟨by rw [HE.out] <;> rfl, hbl.trans (hb2.mono hbl.size)⟩
  subst hr0
  go_wp2_with fail
  refine (KB.out _ hbs).mono ?_
  rintro e w2 ⟨rfl, hb2⟩
  have b2 : Below w.heap.size w w2 := hbl.trans (hb2.mono hbl.size)
  have hbs2 := hbs.below hb2
  have hn' : n' = x.length := hbs2.1
  have hm' := hbs2.2.1
  have HN' := hid hn'
  have HB2 := hid hbs2
  clear hn' hbs2
  go_wp2_with fail
  go_loopw [32] (fun i wi => ∃ j : Nat, j ≤ n' ∧ i = .int .i64 j ∧ Hid (∀ i, i < j → (x.getD i bd0).e = 0) ∧ Below w2.heap.size w2 wi) (fun i _ => n' - (intOf i).toNat)
  case atStart => exact ⟨0, Nat.zero_le _, rfl, fun j hj => absurd hj (Nat.not_lt_zero _), Below.refl _ _⟩
  case round =>
   obtain ⟨j, hj', rfl, hoj, hbj⟩ := hrel
   have bj : Below w.heap.size w wr := b2.trans (hbj.mono b2.size)
   by_cases hj : j < n'
   case neg =>
    have HG := hid (HGO.out (by
     unfold scE1
     rw [if_neg (by rw [← HRR.out]; simp), if_neg]
     rintro ⟨i, hi, h⟩
     exact h (hoj.out i (by have := HN'.out; omega))))
    go_wp2_with fail
    go_roundw
    case rel => exact ⟨k + 1, by omega, by go_num, HG.out, bj⟩
    case measure => simp [intOf]; omega
   obtain ⟨b', off', rfl, hlt', hat'⟩ := (HB2.out.below hbj).2.2 (by omega)
   obtain ⟨d0, d1, d2⟩ := hat' j (by have e := HN'.out; omega)
   clear hat'
   have hsj := hbj.size
   by_cases he : (x.getD j bd0).e = 0
   ·
    have HE := hid he
    generalize (x.getD j bd0).f = xf at *
    generalize (x.getD j bd0).r = xr at *
    rw [he] at d2
    clear he
    go_wp2_with fail
    go_roundw
    case rel => exact ⟨j + 1, by omega, by go_num, fun i hi => by
     rcases (by omega : i = j ∨ i < j) with rfl | hi
     ·
      exact HE.out
     ·
      exact hoj.out i hi, hbj.alloc hsj _⟩
    case measure => simp [intOf]; omega
   ·
    have te : ((x.getD j bd0).e != 0) = true := by simpa using he
    have HE : Hid (r = 50) := HST.out 50 (by unfold scE1; rw [if_neg (by rw [← HRR.out]; simp), if_pos ⟨j, by have := HN'.out; omega, he⟩]) (by decide)
    clear he
    generalize (x.getD j bd0).f = xf at *
    generalize (x.getD j bd0).r = xr at *
    generalize (x.getD j bd0).e = xe at *
    go_wp2_with fail
    go_ret
    exact ⟨by rw [HE.out] <;> rfl, bj.alloc bj.size _⟩
theorem xcheck_c (sch : List (List Bd)) (cts : List Ct) (kds : List Kd) (As Ac Ak : Option Addr) (ns cs nc cc nk ck : Nat) (lim rnd : Int) (w : World) (hs : ScSl w As ns sch) (hc : CtSl w Ac nc cts) (hcc : nc ≤ cc) (hk : KdSl w Ak nk kds) (hck : nk ≤ ck) (r : Int) (hr : Hid (r = tbE ⟨sch, cts, kds, lim, rnd⟩)) :
    Calls prog 138 #[.agg #[.slice As ns cs, .slice Ac nc cc, .slice Ak nk ck, .int .i64 lim, .int .i64 rnd]] w fun e w' => e = .returned (.int .i64 r) ∧ Below w.heap.size w w' := by
  have z := Blk.mk w 26 #[.slice As ns cs, .slice Ac nc cc, .slice Ak nk ck, .int .i64 lim, .int .i64 rnd]
  obtain ⟨z0, z1, z2, z3, z4⟩ := z.all5
  cases hl : rateB lim
  · have HE : Hid (r = 50) := hr.out.trans (by unfold tbE; rw [if_pos hl])
    go_enter func138, ntmps138
    go_wp2_with fail
    refine (rate_f lim hl _).mono ?_
    rintro e w' ⟨rfl, rfl⟩
    go_wp2_with fail
    go_ret
    exact ⟨by rw [HE.out] <;> rfl, bz1 _ _⟩
  have HL : Hid (¬ rateB lim = false) := by unfold Hid; rw [hl]; decide
  cases hm : modeB rnd
  · have HE : Hid (r = 1) := hr.out.trans (by unfold tbE; rw [if_neg HL.out, if_pos hm])
    go_enter func138, ntmps138
    go_wp2_with fail
    refine (rate_t lim hl _).mono ?_
    rintro e w' ⟨rfl, rfl⟩
    go_wp2_with fail
    refine (mode_f rnd hm _).mono ?_
    rintro e w' ⟨rfl, rfl⟩
    go_wp2_with fail
    go_ret
    exact ⟨by rw [HE.out] <;> rfl, bz1 _ _⟩
  obtain ⟨r1, h1⟩ : ∃ r1, r1 = scsE sch := ⟨_, rfl⟩
  obtain ⟨r2, h2⟩ : ∃ r2, r2 = ctsE cts := ⟨_, rfl⟩
  obtain ⟨r3, h3⟩ : ∃ r3, r3 = kdsE kds := ⟨_, rfl⟩
  have HF : Hid (r = if r1 ≠ 0 then r1 else if r2 ≠ 0 then r2 else r3) := hr.out.trans (by unfold tbE; rw [if_neg HL.out, if_neg (by rw [hm]; decide), h1, h2, h3])
  have K1 : Hid (∀ W : World, Below w.heap.size w W → Calls prog 167 #[.agg #[.slice As ns cs, .slice Ac nc cc, .slice Ak nk ck, .int .i64 lim, .int .i64 rnd]] W fun e w' => e = .returned (.int .i64 r1) ∧ Below W.heap.size W w') := fun W h => xschemes_c sch As Ac Ak ns cs nc cc nk ck lim rnd W (hs.below h) r1 h1
  have K2 : Hid (∀ W : World, Below w.heap.size w W → Calls prog 168 #[.agg #[.slice As ns cs, .slice Ac nc cc, .slice Ak nk ck, .int .i64 lim, .int .i64 rnd]] W fun e w' => e = .returned (.int .i64 r2) ∧ Below W.heap.size W w') := fun W h => xcontribs_c cts As Ac Ak ns cs nc cc nk ck lim rnd W (hc.below h) hcc r2 h2
  have K3 : Hid (∀ W : World, Below w.heap.size w W → Calls prog 169 #[.agg #[.slice As ns cs, .slice Ac nc cc, .slice Ak nk ck, .int .i64 lim, .int .i64 rnd]] W fun e w' => e = .returned (.int .i64 r3) ∧ Below W.heap.size W w') := fun W h => xkinds_c kds As Ac Ak ns cs nc cc nk ck lim rnd W (hk.below h) hck r3 h3
  clear hs hc hk hcc hck h1 h2 h3
  have hb0 := bz1 w (.cells #[.slice As ns cs, .slice Ac nc cc, .slice Ak nk ck, .int .i64 lim, .int .i64 rnd] 26)
  go_enter func138, ntmps138
  go_wp2_with fail
  refine (rate_t lim hl _).mono ?_
  rintro e w' ⟨rfl, rfl⟩
  go_wp2_with fail
  refine (mode_t rnd hm _).mono ?_
  rintro e w' ⟨rfl, rfl⟩
  go_wp2_with fail
  go_region_held3 (fun W => W.cell? ⟨w.heap.size, 0, none⟩ = some (.slice As ns cs) ∧ W.cell? ⟨w.heap.size, 1, none⟩ = some (.slice Ac nc cc) ∧ W.cell? ⟨w.heap.size, 2, none⟩ = some (.slice Ak nk ck) ∧ W.cell? ⟨w.heap.size, 3, none⟩ = some (.int .i64 lim) ∧ W.cell? ⟨w.heap.size, 4, none⟩ = some (.int .i64 rnd) ∧ w.heap.size < W.heap.size ∧ Below w.heap.size w W)
    (first | assumption | exact ⟨z0, z1, z2, z3, z4, by simp, hb0.drew⟩ | (apply sB5 rfl <;> assumption))
    (first
      | (go_at_call 167; refine (K1.out _ (by first | assumption | exact hb0.drew | exact (show _ ∧ _ ∧ _ ∧ _ ∧ _ ∧ _ ∧ _ from by assumption).2.2.2.2.2.2)).mono ?_; rintro e w1 ⟨rfl, hb1⟩)
      | (go_at_call 168; refine (K2.out _ (by first | assumption | exact hb0.drew | exact (show _ ∧ _ ∧ _ ∧ _ ∧ _ ∧ _ ∧ _ from by assumption).2.2.2.2.2.2)).mono ?_; rintro e w1 ⟨rfl, hb1⟩)
      | (go_at_call 169; refine (K3.out _ (by first | assumption | exact hb0.drew | exact (show _ ∧ _ ∧ _ ∧ _ ∧ _ ∧ _ ∧ _ from by assumption).2.2.2.2.2.2)).mono ?_; rintro e w1 ⟨rfl, hb1⟩))
  have bl : Below w.heap.size w _ := (show _ ∧ _ ∧ _ ∧ _ ∧ _ ∧ _ ∧ _ from by assumption).2.2.2.2.2.2
  have i0 : ∀ w, (Instr.index 275 (.agg #[.int .i64 r1, .int .i64 r2, .int .i64 r3]) (.int .i64 0)).run prog w = .ok (.int .i64 r1) w := fun _ => by kernel_rfl
  have i1 : ∀ w, (Instr.index 275 (.agg #[.int .i64 r1, .int .i64 r2, .int .i64 r3]) (.int .i64 1)).run prog w = .ok (.int .i64 r2) w := fun _ => by kernel_rfl
  have i2 : ∀ w, (Instr.index 275 (.agg #[.int .i64 r1, .int .i64 r2, .int .i64 r3]) (.int .i64 2)).run prog w = .ok (.int .i64 r3) w := fun _ => by kernel_rfl
  cases t1 : r1 != 0
  case true =>
    have HE : Hid (r = r1) := HF.out.trans (if_pos (by simpa using t1))
    go_wp2_with fail
    refine wp_loop_rounds 4 ?_
    rw [rounds_succ]
    go_wp2_with fail
    go_ret
    exact ⟨by rw [HE.out] <;> rfl, bl⟩
  have n1 : Hid (r1 = 0) := by unfold Hid; simpa using t1
  cases t2 : r2 != 0
  case true =>
    have HE : Hid (r = r2) := HF.out.trans ((if_neg (fun h => h n1.out)).trans (if_pos (by simpa using t2)))
    go_wp2_with fail
    refine wp_loop_rounds 4 ?_
    rw [rounds_succ]
    go_wp2_with fail
    rw [rounds_succ]
    go_wp2_with fail
    go_ret
    exact ⟨by rw [HE.out] <;> rfl, bl⟩
  have n2 : Hid (r2 = 0) := by unfold Hid; simpa using t2
  have HE : Hid (r = r3) := HF.out.trans ((if_neg (fun h => h n1.out)).trans (if_neg (fun h => h n2.out)))
  cases t3 : r3 != 0
  case true =>
    go_wp2_with fail
    refine wp_loop_rounds 4 ?_
    rw [rounds_succ]
    go_wp2_with fail
    rw [rounds_succ]
    go_wp2_with fail
    rw [rounds_succ]
    go_wp2_with fail
    go_ret
    exact ⟨by rw [HE.out] <;> rfl, bl⟩
  have n3 : Hid (r3 = 0) := by unfold Hid; simpa using t3
  go_wp2_with fail
  refine wp_loop_rounds 4 ?_
  rw [rounds_succ]
  go_wp2_with fail
  rw [rounds_succ]
  go_wp2_with fail
  rw [rounds_succ]
  go_wp2_with fail
  rw [rounds_succ]
  go_wp2_with fail
  go_ret
  exact ⟨by rw [HE.out, n3.out] <;> rfl, bl⟩
end Go.Proofs.YtiaabmhjkoohmaaGreat
