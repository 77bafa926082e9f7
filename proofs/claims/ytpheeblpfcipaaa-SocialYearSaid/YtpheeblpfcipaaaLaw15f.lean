/-
  Layer 15's law SocialYear: its walk. No conditions.
-/
import Derived.Test.YtpheeblpfcipaaaLaw15b
import Derived.Test.YtpheeblpfcipaaaCeilP
import Derived.RegionTactic
import Derived.LoopN
namespace Go.Proofs.Ytpheeblpfcipaaa
set_option linter.unusedVariables false
open Go.RowKit
/-- bases of which none is beyond a hundredth of the most -/
def smB (b : Bs) : Prop := (-100000000000 ≤ b.c ∧ b.c ≤ 1000000000) ∧ (-100000000000 ≤ b.t ∧ b.t ≤ 1000000000) ∧ (-100000000000 ≤ b.s ∧ b.s ≤ 1000000000)
theorem sm_on (base : Int) (b : Bs) (h : smB b) : 0 ≤ onI base b ∧ onI base b ≤ 1000000000 := by
  obtain ⟨h1, h2, h3⟩ := h
  unfold onI
  split <;> omega
theorem sm_x (c : Ct) (b : Bs) (h : smB b) (ah : Int) : 0 ≤ xI c b ah ∧ xI c b ah ≤ 1000000000 := by
  have h1 := sm_on c.base b h
  have h2 := under_bd c.pc c.yc (onI c.base b) ah h1.1
  unfold xI
  omega
theorem sm_r (b : Bs) (h : smB b) : bsR b = true := by
  obtain ⟨h1, h2, h3⟩ := h
  unfold bsR
  rw [mr_t (by omega), mr_t (by omega), mr_t (by omega)]
  rfl
theorem sm_ahd (cts : List Ct) (l : List Bs) (nc n : Nat) (h : ∀ k, k < n → smB (l.getD k bs0)) : ∀ k, k ≤ n → ∀ i, i < nc → 0 ≤ (ahd cts l nc k).getD i 0 ∧ (ahd cts l nc k).getD i 0 ≤ k * 1000000000 := by
  intro k
  induction k with
  | zero => intro _ i hi; rw [ahd_zero]; exact ⟨by decide, by decide⟩
  | succ k ih =>
    intro hk i hi
    have h1 := ih (by omega) i hi
    have h2 := sm_x (cts.getD i ct0) (l.getD k bs0) (h k (by omega)) ((ahd cts l nc k).getD i 0)
    rw [ahd_at cts l nc k i hi]
    have e : xAt cts (l.getD k bs0) (ahd cts l nc k) i = xI (cts.getD i ct0) (l.getD k bs0) ((ahd cts l nc k).getD i 0) := rfl
    rw [e]
    omega
theorem sm_ok (cts : List Ct) (l : List Bs) (nc n : Nat) (hn : n ≤ 60) (h : ∀ k, k < n → smB (l.getD k bs0)) (k : Nat) (hk : k < n) : okY cts l nc k = true := by
  refine okA_yes _ _ _ _ (sm_r _ (h k hk)) (fun i hi => ?_)
  have h1 := sm_ahd cts l nc n h (k + 1) (by omega) i hi
  rw [ahd_at cts l nc k i hi] at h1
  exact mr_t (by omega)
theorem cnt_ahd (cts : List Ct) (l : List Bs) (nc i : Nat) (hi : i < nc) : ∀ k, cntA (cts.getD i ct0) l k = (ahd cts l nc k).getD i 0 := by
  intro k
  induction k with
  | zero => rw [ahd_zero]; rfl
  | succ k ih => rw [ahd_at cts l nc k i hi, cntA, ih]; rfl
theorem cntX_at (cts : List Ct) (l : List Bs) (nc i : Nat) (hi : i < nc) (k : Nat) : cntX (cts.getD i ct0) l k = xAt cts (l.getD k bs0) (ahd cts l nc k) i := by
  rw [cntX, cnt_ahd cts l nc i hi]; rfl
theorem ahd_mr2 (cts : List Ct) (l : List Bs) (nc k i : Nat) (h : ∀ j, j < k → okY cts l nc j = true) : mrB ((ahd cts l nc k).getD i 0) = true := by
  have := all_mr (ahd_mr cts l nc k h) i
  exact mr_t (by omega)
--%%
set_option maxRecDepth 100000 in
set_option maxHeartbeats 4000000 in
theorem socialYear_walk (sch : List (List Bd)) (cts : List Ct) (kds : List Kd) (l : List Bs) (As Ac Ak A : Option Addr) (ns cs nc cc nk ck n c : Nat) (lim rnd : Int) (w : World) (hs : ScSl w As ns sch) (hc : CtSl w Ac nc cts) (hcc : nc ≤ cc) (hk : KdSl w Ak nk kds) (hck : nk ≤ ck) (hl : BsSl w A n l) :
    Calls Try.prog 6 #[.agg #[.slice As ns cs, .slice Ac nc cc, .slice Ak nk ck, .int .i64 lim, .int .i64 rnd], .slice A n c] w fun e w' => e = .returned (.bool true) ∧ Below w.heap.size w w' := by
  have z := Blk.mk w 26 #[.slice As ns cs, .slice Ac nc cc, .slice Ak nk ck, .int .i64 lim, .int .i64 rnd]
  have hb0 := below1 w (.cells #[.slice As ns cs, .slice Ac nc cc, .slice Ak nk ck, .int .i64 lim, .int .i64 rnd] 26)
  have HS := Lib.hid hs
  have HC := Lib.hid hc
  have HK := Lib.hid hk
  have HL := Lib.hid hl
  clear hs hc hk hl
  go_enter Try.func6, Try.ntmps6
  go_wp2_with fail
  refine (pays_c _).mono ?_
  rintro e w1 ⟨rfl, hb1⟩
  have z1 := z.t hb1
  have hb2 := bT hb0 hb1
  obtain ⟨p0, p1, p2, p3, p4⟩ := z1.all5
  go_wp2_with fail
  refine (fits15_c sch cts kds As Ac Ak ns cs nc cc nk ck lim rnd _ (HS.out.below hb2) (HC.out.below hb2) hcc (HK.out.below hb2) hck).mono ?_
  rintro e w2 ⟨bb, ⟨rfl, hy⟩, hb3⟩
  have hb4 := bT hb2 hb3
  cases bb
  · clear hy
    go_wp2_with fail
    go_ret
    exact ⟨rfl, hb4⟩
  obtain ⟨hOK, hn20⟩ := hy rfl
  have HOK := Lib.hid hOK
  clear hOK hy p0 p1 p2 p3 p4
  have z2 := z1.t hb3
  obtain ⟨p0, p1, p2, p3, p4⟩ := z2.all5
  by_cases hn : 60 < n
  · have hnd : (60 : Int) < (n : Int) := by omega
    go_wp2_with fail
    go_ret
    exact ⟨rfl, hb4⟩
  have hnd : ¬ (60 : Int) < (n : Int) := by omega
  have hcts : ∀ k, k < nc → CtOK (cts.getD k ct0) := fun k hk => HOK.out.cts k (by have := HC.out.1; omega)
  have KY := Lib.hid (fun W h1 h2 => year_c cts As Ac Ak A ns cs nc cc nk ck n c lim rnd l W h1 hcts h2 (by omega) (by omega))
  have HCTS := Lib.hid hcts
  clear hcts
  have i0 : ∀ (a b c : Value) W, (Instr.index 60 (.agg #[a, b, c]) (.int .i64 0)).run Try.prog W = .ok a W := fun _ _ _ _ => by kernel_rfl
  have i1 : ∀ (a b c : Value) W, (Instr.index 60 (.agg #[a, b, c]) (.int .i64 1)).run Try.prog W = .ok b W := fun _ _ _ _ => by kernel_rfl
  have i2 : ∀ (a b c : Value) W, (Instr.index 60 (.agg #[a, b, c]) (.int .i64 2)).run Try.prog W = .ok c W := fun _ _ _ _ => by kernel_rfl
  go_wp2_with fail
  refine (KY.out _ (HC.out.below hb4) (HL.out.below hb4)).mono ?_
  rintro e w3 ⟨⟨hyes, v, rfl, hv⟩ | ⟨⟨kk, hkk, hno⟩, rfl⟩, hb5⟩
  case inr =>
    have hb6 := bT hb4 hb5
    have HN := Lib.hid hno
    clear hno
    go_wp2_with fail
    go_loopw [8, 10, 42] (fun _ _ i wr => ∃ k : Nat, k ≤ n ∧ i = .int .i64 k ∧ Hid (∀ j, j < k → smB (l.getD j bs0)) ∧ Below w3.heap.size w3 wr) (fun _ _ i _ => n - (intOf i).toNat)
    case atStart => exact ⟨0, Nat.zero_le _, rfl, fun j hj => absurd hj (by omega), b0 _⟩
    case round =>
      obtain ⟨k, hk', rfl, hM, hbl⟩ := hrel
      have hblw := bT hb6 hbl
      by_cases hk : k < n
      case neg =>
        obtain rfl : k = n := by omega
        have := sm_ok cts l nc k (by omega) hM.out kk hkk
        rw [HN.out] at this
        cases this
      obtain ⟨b, off, rfl, hlt, hat⟩ := (HL.out.below hblw).2.2 (by omega)
      obtain ⟨c0, c1, c2⟩ := hat k hk
      have hS : Hid (smB (l.getD k bs0) ↔ ((-100000000000 ≤ (l.getD k bs0).c ∧ (l.getD k bs0).c ≤ 1000000000) ∧ (-100000000000 ≤ (l.getD k bs0).t ∧ (l.getD k bs0).t ≤ 1000000000) ∧ (-100000000000 ≤ (l.getD k bs0).s ∧ (l.getD k bs0).s ≤ 1000000000))) := Iff.rfl
      have HAT := Lib.hid hat
      clear hat
      generalize (l.getD k bs0).c = bc at *
      generalize (l.getD k bs0).t = bt at *
      generalize (l.getD k bs0).s = bs at *
      have bb := Blk.mk wr 59 #[.int .i64 bc, .int .i64 bt, .int .i64 bs]
      obtain ⟨q0, q1, q2⟩ := bb.all3
      by_cases o0 : 100000000000 < bc
      case pos =>
        go_wp2_with fail
        refine wp_loop_rounds 4 ?_
        rw [rounds_succ]
        go_wp2_with fail
        go_ret
        exact ⟨rfl, bA hblw _⟩
      by_cases u0 : bc < -100000000000
      case pos =>
        go_wp2_with fail
        refine wp_loop_rounds 4 ?_
        rw [rounds_succ]
        go_wp2_with fail
        go_ret
        exact ⟨rfl, bA hblw _⟩
      by_cases v0 : 1000000000 < bc
      case pos =>
        go_wp2_with fail
        refine wp_loop_rounds 4 ?_
        rw [rounds_succ]
        go_wp2_with fail
        go_ret
        exact ⟨rfl, bA hblw _⟩
      by_cases o1 : 100000000000 < bt
      case pos =>
        go_wp2_with fail
        refine wp_loop_rounds 4 ?_
        rw [rounds_succ]
        go_wp2_with fail
        rw [rounds_succ]
        go_wp2_with fail
        go_ret
        exact ⟨rfl, bA hblw _⟩
      by_cases u1 : bt < -100000000000
      case pos =>
        go_wp2_with fail
        refine wp_loop_rounds 4 ?_
        rw [rounds_succ]
        go_wp2_with fail
        rw [rounds_succ]
        go_wp2_with fail
        go_ret
        exact ⟨rfl, bA hblw _⟩
      by_cases v1 : 1000000000 < bt
      case pos =>
        go_wp2_with fail
        refine wp_loop_rounds 4 ?_
        rw [rounds_succ]
        go_wp2_with fail
        rw [rounds_succ]
        go_wp2_with fail
        go_ret
        exact ⟨rfl, bA hblw _⟩
      by_cases o2 : 100000000000 < bs
      case pos =>
        go_wp2_with fail
        refine wp_loop_rounds 4 ?_
        rw [rounds_succ]
        go_wp2_with fail
        rw [rounds_succ]
        go_wp2_with fail
        rw [rounds_succ]
        go_wp2_with fail
        go_ret
        exact ⟨rfl, bA hblw _⟩
      by_cases u2 : bs < -100000000000
      case pos =>
        go_wp2_with fail
        refine wp_loop_rounds 4 ?_
        rw [rounds_succ]
        go_wp2_with fail
        rw [rounds_succ]
        go_wp2_with fail
        rw [rounds_succ]
        go_wp2_with fail
        go_ret
        exact ⟨rfl, bA hblw _⟩
      by_cases v2 : 1000000000 < bs
      case pos =>
        go_wp2_with fail
        refine wp_loop_rounds 4 ?_
        rw [rounds_succ]
        go_wp2_with fail
        rw [rounds_succ]
        go_wp2_with fail
        rw [rounds_succ]
        go_wp2_with fail
        go_ret
        exact ⟨rfl, bA hblw _⟩
      have hsm := hS.out.2 ⟨⟨by omega, by omega⟩, ⟨by omega, by omega⟩, ⟨by omega, by omega⟩⟩
      have HSM := Lib.hid hsm
      clear hsm
      go_wp2_with fail
      refine wp_loop_rounds 4 ?_
      rw [rounds_succ]
      go_wp2_with fail
      rw [rounds_succ]
      go_wp2_with fail
      rw [rounds_succ]
      go_wp2_with fail
      rw [rounds_succ]
      go_wp2_with fail
      go_roundw
      case rel =>
        refine ⟨k + 1, by omega, by go_num, fun j hj => ?_, bA hbl _⟩
        rcases (by omega : j = k ∨ j < k) with rfl | hj
        · exact HSM.out
        · exact hM.out j hj
      case measure => simp [intOf]; omega
  have hb6 := bT hb4 hb5
  have z3 := z2.t hb5
  have HY := Lib.hid hyes
  obtain ⟨Av, cv, rfl, hcv, hrows⟩ := hv.sl (by omega)
  have HR := Lib.hid hrows
  clear hyes hv hrows p0 p1 p2 p3 p4
  go_wp2_with fail
  go_loopw [8, 10, 42] (fun _ _ i wr => ∃ k : Nat, k ≤ n ∧ i = .int .i64 k ∧ Hid (∀ j, j < k → smB (l.getD j bs0)) ∧ Below w3.heap.size w3 wr) (fun _ _ i _ => n - (intOf i).toNat)
  case atStart => exact ⟨0, Nat.zero_le _, rfl, fun j hj => absurd hj (by omega), b0 _⟩
  case round =>
    obtain ⟨k, hk', rfl, hM, hbl⟩ := hrel
    have hblw := bT hb6 hbl
    by_cases hk : k < n
    case neg =>
      obtain rfl : k = n := by omega
      have z4 := z3.t hbl
      have hnn : ((k : Int) != (k : Int)) = false := by simp
      have HR4 := Lib.hid (HR.out.below hbl)
      have hmk := fun W => run_make_K (P := Try.prog) 61 2 (.int .i64 0) 1 8 Try.underlying61 info_i64 nc (by omega) (by omega) W
      have hz : (Value.cells (.int .i64 0)) = #[.int .i64 0] := rfl
      rw [hz, Nat.mul_one] at hmk
      have hmo := own_made wr 2 #[.int .i64 0] 1 nc (by omega) (base := wr.heap.size) (Nat.le_refl _)
      rw [Nat.mul_one, toList_madeCells_one] at hmo
      have hI : OwnI (wr.alloc (.cells (madeCells #[.int .i64 0] nc) 2)) wr.heap.size (.slice (some ⟨wr.heap.size, 0, none⟩) nc nc) nc (ahd cts l nc 0) := ⟨by simp [ahd], by simpa [ahd] using hmo⟩
      obtain ⟨_, _, hsl0, _, hI2⟩ := hI.sl
      injection hsl0 with hsl1 _ hsl3
      subst hsl1
      subst hsl3
      have HI := Lib.hid hI2
      obtain ⟨p0, p1, p2, p3, p4⟩ := z4.all5
      have hblw2 := bA hblw (.cells (madeCells #[.int .i64 0] nc) 2)
      have hbl0 := below1 wr (.cells (madeCells #[.int .i64 0] nc) 2)
      have z5 := z4.alloc (.cells (madeCells #[.int .i64 0] nc) 2)
      clear hz hmo hI hI2
      go_wp2_with fail
      clear hmk
      obtain ⟨wa, rfl⟩ : ∃ wa : World, wa = wr := ⟨_, rfl⟩
      go_loopw [11, 12, 13, 14, 15, 16, 17, 88, 122] (fun va _ _ _ _ _ _ i _ wr => ∃ (j : Nat) (Aa : Option Addr) (ca : Nat), j ≤ k ∧ i = .int .i64 j ∧ va = .slice Aa nc ca ∧ I64Sl wr Aa nc (ahd cts l nc j) ∧ Below wa.heap.size wa wr) (fun _ _ _ _ _ _ _ i _ _ => k - (intOf i).toNat)
      case atStart => exact ⟨0, _, _, Nat.zero_le _, rfl, rfl, HI.out, hbl0⟩
      case round =>
        obtain ⟨j, Aa, ca, hj', rfl, rfl, hIa, hbl2⟩ := hrel
        have hbw := bT hblw hbl2
        have z6 := z4.t hbl2
        obtain ⟨p0, p1, p2, p3, p4⟩ := z6.all5
        have HIa := Lib.hid hIa
        clear hIa
        by_cases hj : j < k
        case neg =>
          obtain rfl : j = k := by omega
          obtain ⟨wb, rfl⟩ : ∃ wb : World, wb = wr := ⟨_, rfl⟩
          go_wp2_with fail
          go_loopw [18, 19, 20, 21, 22, 23, 154, 169] (fun _ _ _ _ _ _ i _ wr => ∃ j' : Nat, j' ≤ nc ∧ i = .int .i64 j' ∧ Below wb.heap.size wb wr) (fun _ _ _ _ _ _ i _ _ => nc - (intOf i).toNat)
          case atStart => exact ⟨0, Nat.zero_le _, rfl, b0 _⟩
          case round =>
            obtain ⟨i, hi', rfl, hbl5⟩ := hrel
            obtain ⟨wq, rfl⟩ : ∃ wq : World, wq = wr := ⟨_, rfl⟩
            have hbq := bT hbw hbl5
            by_cases hi : i < nc
            case neg =>
              go_wp2_with fail
              go_ret
              exact ⟨rfl, hbq⟩
            obtain ⟨gc, oc, rfl, hltc, hatc⟩ := (HC.out.below hbq).2.2 (by omega)
            obtain ⟨c0, _, c1, ⟨A', n', c', c2, hbs⟩, c3, c4, c5⟩ := hatc i hi
            have hok := HCTS.out i hi
            have okk := hok.bands
            have oky := hok.yc
            have okm := hok.rd
            have HRA := Lib.hid (fun k => row_at cts l nc k i hi)
            have HCX := Lib.hid (fun k => cntX_at cts l nc i hi k)
            have hM : Hid (∀ k, k ≤ j → mrB (cntA (cts.getD i ct0) l k) = true) := fun k hk => by
              rw [cnt_ahd cts l nc i hi]
              exact ahd_mr2 cts l nc k i (fun q hq => HY.out q (by omega))
            have hXb : Hid (∀ k, k < j → mrB (cntX (cts.getD i ct0) l k) = true) := fun k hk => by
              have := x_bd (cts.getD i ct0) (l.getD k bs0) (cntA (cts.getD i ct0) l k) (okA_b (HY.out k hk))
              exact mr_t (by unfold cntX; omega)
            have HAT := Lib.hid hatc
            clear hatc hok
            generalize hct : cts.getD i ct0 = ct at *
            have HCT := Lib.hid hct
            clear hct
            obtain ⟨nm, base, bands, pc, yc, rd⟩ := ct
            dsimp only at c0 c1 c2 c3 c4 c5 hbs oky okk okm
            have KC := Lib.hid (fun W h => counted_t nm base pc yc rd bands A' n' c' l A j c W h (by omega) oky (fun k hk => okA_b (HY.out k hk)) hM.out)
            have KD := Lib.hid (fun x hx W h => due_c nm base pc yc rd A' n' c' bands x W h okk hx okm)
            have cb := Blk.mk wq 31 #[.string nm, .int .i64 base, .slice A' n' c', .int .i64 pc, .int .i64 yc, .int .i64 rd]
            have hb20 := below1 wq (.cells #[.string nm, .int .i64 base, .slice A' n' c', .int .i64 pc, .int .i64 yc, .int .i64 rd] 31)
            obtain ⟨q0, q1, q2, q3, q4, q5⟩ := cb.all6
            clear okk
            go_wp2_with fail
            refine (KC.out _ (HL.out.below (bT hbq hb20))).mono ?_
            rintro e w6 ⟨⟨v, rfl, hv⟩, hb21⟩
            obtain ⟨Ax, cx, rfl, _, hx⟩ := hv.sl
            have HX := Lib.hid hx
            have cb1 := cb.t hb21
            have hb22 := bT hb20 hb21
            have hb23 := bT hbl5 hb22
            have hbs1 := Lib.hid (hbs.below hb22)
            clear hv hx
            go_wp2_with fail
            go_loopw [22, 23, 169] (fun _ _ i wr => ∃ k : Nat, k ≤ j ∧ i = .int .i64 k ∧ Below w6.heap.size w6 wr) (fun _ _ i _ => j - (intOf i).toNat)
            case atStart => exact ⟨0, Nat.zero_le _, rfl, b0 _⟩
            case round =>
              obtain ⟨k, hk', rfl, hbl7⟩ := hrel
              by_cases hk : k < j
              case neg =>
                go_wp2_with fail
                go_roundw
                case rel => exact ⟨i + 1, by omega, by go_num, bT hb23 hbl7⟩
                case measure => simp [intOf]; omega
              have hbz := bT hb23 hbl7
              have hbzw := bT hbw hbz
              obtain ⟨gx, ox, rfl, hltx, hatx⟩ := (HX.out.below hbl7).2.2 (by omega)
              have u6 := hatx k hk
              rw [show ((List.range j).map (cntX ⟨nm, base, bands, pc, yc, rd⟩ l)).getD k 0 = cntX ⟨nm, base, bands, pc, yc, rd⟩ l k from by simp [List.getD, hk]] at u6
              obtain ⟨bA, oA, rfl, hltA, hatA⟩ := ((HR4.out.below hbl2).below hbz).2 (by omega)
              obtain ⟨B, cB, f0, hrow⟩ := hatA k hk
              obtain ⟨gs, os, rfl, hlts, hats⟩ := hrow.2.2 (by omega)
              obtain ⟨u0, u1⟩ := hats i (by rw [← hrow.1]; exact hi)
              have hra := HRA.out k
              rw [← HCX.out k] at hra
              rw [hra] at u0 u1
              have hxm := hXb.out k hk
              have KE := Lib.hid (KD.out (cntX ⟨nm, base, bands, pc, yc, rd⟩ l k) hxm)
              unfold shI at u0 u1
              dsimp only at u0 u1
              have cb2 := cb1.t hbl7
              have z8 := z6.t hbz
              have HBS := Lib.hid (hbs1.out.below hbl7)
              have hsz := hbl7.size
              clear hatx hatA hrow hats hra hxm
              generalize cntX ⟨nm, base, bands, pc, yc, rd⟩ l k = x at *
              generalize roundI (bandS (·.r) bands x) 10000 rd = ra at *
              generalize roundI (bandS (·.e) bands x) 10000 rd = rb at *
              have ii0 : (0 : Int) ≤ (i : Int) := by omega
              have ii1 : (i : Int) < (nc : Int) := by omega
              have ii2 : ((i : Int)).toNat = i := by omega
              have kk0 : (0 : Int) ≤ (k : Int) := by omega
              have kk1 : (k : Int) < (j : Int) := by omega
              have kk2 : ((k : Int)).toNat = k := by omega
              have G : Hid (∀ W, Below wr.heap.size wr W → Below wr.heap.size wr W ∧ W.cell? ⟨w.heap.size, 1, none⟩ = some (.slice (some ⟨gc, oc, none⟩) nc cc) ∧ W.cell? ⟨bA, oA + k, none⟩ = some (.slice (some ⟨gs, os, none⟩) nc cB) ∧ W.cell? ⟨gs, os + i * 2, none⟩ = some (.int .i64 ra) ∧ W.cell? ⟨gs, os + i * 2 + 1, none⟩ = some (.int .i64 rb) ∧ W.cell? ⟨wq.heap.size, 0, none⟩ = some (.string nm) ∧ W.cell? ⟨wq.heap.size, 1, none⟩ = some (.int .i64 base) ∧ W.cell? ⟨wq.heap.size, 2, none⟩ = some (.slice A' n' c') ∧ W.cell? ⟨wq.heap.size, 3, none⟩ = some (.int .i64 pc) ∧ W.cell? ⟨wq.heap.size, 4, none⟩ = some (.int .i64 yc) ∧ W.cell? ⟨wq.heap.size, 5, none⟩ = some (.int .i64 rd)) := fun W hW => ⟨hW, (z8.t hW).cell 1, (hW.cell (p := ⟨bA, oA + k, none⟩) hltA).trans f0, (hW.cell (p := ⟨gs, os + i * 2, none⟩) hlts).trans u0, (hW.cell (p := ⟨gs, os + i * 2 + 1, none⟩) hlts).trans u1, (cb2.t hW).cell 0, (cb2.t hW).cell 1, (cb2.t hW).cell 2, (cb2.t hW).cell 3, (cb2.t hW).cell 4, (cb2.t hW).cell 5⟩
              go_wp2_with fail
              go_region_held3 (fun W => Below wr.heap.size wr W ∧ W.cell? ⟨w.heap.size, 1, none⟩ = some (.slice (some ⟨gc, oc, none⟩) nc cc) ∧ W.cell? ⟨bA, oA + k, none⟩ = some (.slice (some ⟨gs, os, none⟩) nc cB) ∧ W.cell? ⟨gs, os + i * 2, none⟩ = some (.int .i64 ra) ∧ W.cell? ⟨gs, os + i * 2 + 1, none⟩ = some (.int .i64 rb) ∧ W.cell? ⟨wq.heap.size, 0, none⟩ = some (.string nm) ∧ W.cell? ⟨wq.heap.size, 1, none⟩ = some (.int .i64 base) ∧ W.cell? ⟨wq.heap.size, 2, none⟩ = some (.slice A' n' c') ∧ W.cell? ⟨wq.heap.size, 3, none⟩ = some (.int .i64 pc) ∧ W.cell? ⟨wq.heap.size, 4, none⟩ = some (.int .i64 yc) ∧ W.cell? ⟨wq.heap.size, 5, none⟩ = some (.int .i64 rd))
                (first | assumption | exact G.out _ (b0 _).drew | (exact sK G.out (by assumption) (by assumption)))
                (first | (go_at_call 12; (with_reducible refine (KE.out _ (HBS.out.below (show Below wr.heap.size wr _ ∧ _ from by assumption).1)).mono ?_); rintro e w9 ⟨rfl, hb30⟩))
              all_goals
                have hby := bT hbl7 (show Below wr.heap.size wr _ ∧ _ from by assumption).1
                go_wp2_with fail
                go_roundw
                case rel => exact ⟨k + 1, by omega, by go_num, hby⟩
                case measure => simp [intOf]; omega
        obtain ⟨b, off, rfl, hlt, hat⟩ := (HL.out.below hbw).2.2 (by omega)
        obtain ⟨c0, c1, c2⟩ := hat j hj
        have hmr := ahd_mr cts l nc j (fun i hi => HY.out i (by omega))
        have KP : Hid (∀ W, CtSl W Ac nc cts → I64Sl W Aa nc (ahd cts l nc j) → Calls Try.prog 17 #[.agg #[.slice As ns cs, .slice Ac nc cc, .slice Ak nk ck, .int .i64 lim, .int .i64 rnd], .agg #[.int .i64 (l.getD j bs0).c, .int .i64 (l.getD j bs0).t, .int .i64 (l.getD j bs0).s], .slice Aa nc ca] W (fun e w' => (∃ v vn, e = .returned (.tuple #[v, vn, .int .i64 0]) ∧ OwnS w' W.heap.size v nc (rowY cts l nc j) ∧ OwnI w' W.heap.size vn nc (ahd cts l nc (j + 1))) ∧ Below W.heap.size W w')) := fun W h1 h2 => by
          refine (period_c cts As Ac Ak Aa ns cs nc cc nk ck ca lim rnd (l.getD j bs0).c (l.getD j bs0).t (l.getD j bs0).s (ahd cts l nc j) W h1 HCTS.out h2 hmr (by omega)).mono ?_
          rintro e w' ⟨⟨_, h⟩ | ⟨h, _⟩, hb⟩
          · exact ⟨h, hb⟩
          · have h' := HY.out j hj
            unfold okY at h'
            have e0 : (⟨(l.getD j bs0).c, (l.getD j bs0).t, (l.getD j bs0).s⟩ : Bs) = l.getD j bs0 := rfl
            rw [e0, h'] at h
            cases h
        have HAT := Lib.hid hat
        clear hat hmr
        generalize (l.getD j bs0).c = bc at *
        generalize (l.getD j bs0).t = bt at *
        generalize (l.getD j bs0).s = bs at *
        have z7 := z6.alloc (.cells #[.int .i64 bc, .int .i64 bt, .int .i64 bs] 59)
        obtain ⟨p0, p1, p2, p3, p4⟩ := z7.all5
        have hb8 := below1 wr (.cells #[.int .i64 bc, .int .i64 bt, .int .i64 bs] 59)
        have hb9 := bT hbl2 hb8
        go_wp2_with fail
        refine (KP.out _ (HC.out.below (bT hblw hb9)) (HIa.out.below hb8)).mono ?_
        rintro e w5 ⟨⟨v, vn, rfl, hvr, hvn⟩, hb10⟩
        obtain ⟨Ar, cr, rfl, _, hrw⟩ := hvr.sl
        obtain ⟨An, cn, rfl, _, hnx⟩ := hvn.sl
        have hb11 := bT hb9 hb10
        have hb11w := bT hblw hb11
        obtain ⟨gA, oA, rfl, hltA, hatA⟩ := (HR4.out.below hb11).2 (by omega)
        obtain ⟨B, cB, f0, hrow⟩ := hatA j hj
        have HRW := Lib.hid hrw
        have HNX := Lib.hid hnx
        have HROW := Lib.hid hrow
        have HIb := Lib.hid (HIa.out.below (bT (bA (b0 wr) _) hb10))
        have tnc : ((nc : Int) != (nc : Int)) = false := by simp
        have hs11 := hb11.size
        clear hvr hvn hrw hnx hatA hrow
        go_wp2_with fail
        go_loopw [17, 122] (fun _ i wr => ∃ i' : Nat, i' ≤ nc ∧ i = .int .i64 i' ∧ Below w5.heap.size w5 wr) (fun _ i _ => nc - (intOf i).toNat)
        case atStart => exact ⟨0, Nat.zero_le _, rfl, b0 _⟩
        case round =>
          obtain ⟨i', hi', rfl, hbl3⟩ := hrel
          by_cases hi : i' < nc
          case neg =>
            have hn1 := HNX.out.below hbl3
            go_wp2_with fail
            go_roundw
            case rel => exact ⟨j + 1, _, _, by omega, by go_num, rfl, hn1, bT hb11 hbl3⟩
            case measure => simp [intOf]; omega
          have hra := row_at cts l nc j i' hi
          obtain ⟨g1, o1, rfl, hlt1, hat1⟩ := (HRW.out.below hbl3).2.2 (by omega)
          obtain ⟨u0, u1⟩ := hat1 i' (by rw [← HRW.out.1]; exact hi)
          obtain ⟨g2, o2, rfl, hlt2, hat2⟩ := (HROW.out.below hbl3).2.2 (by omega)
          obtain ⟨u2, u3⟩ := hat2 i' (by rw [← HRW.out.1]; exact hi)
          obtain ⟨g3, o3, rfl, hlt3, hat3⟩ := (HNX.out.below hbl3).2.2 (by omega)
          have u4 := hat3 i' hi
          obtain ⟨g4, o4, rfl, hlt4, hat4⟩ := (HIb.out.below hbl3).2.2 (by omega)
          have u5 := hat4 i' hi
          have f1 := (hbl3.cell (p := ⟨gA, oA + j, none⟩) (by exact hltA)).trans f0
          have hx := x_bd (cts.getD i' ct0) (l.getD j bs0) ((ahd cts l nc j).getD i' 0) (okA_b (HY.out j hj))
          have hle : ¬ (ahd cts l nc (j + 1)).getD i' 0 < (ahd cts l nc j).getD i' 0 := by
            rw [ahd_at cts l nc j i' hi]
            have e : xAt cts (l.getD j bs0) (ahd cts l nc j) i' = xI (cts.getD i' ct0) (l.getD j bs0) ((ahd cts l nc j).getD i' 0) := rfl
            omega
          have hled : decide ((ahd cts l nc (j + 1)).getD i' 0 < (ahd cts l nc j).getD i' 0) = false := by simpa using hle
          have jj0 : (0 : Int) ≤ (i' : Int) := by omega
          have jj1 : (i' : Int) < (nc : Int) := by omega
          have jj2 : ((i' : Int)).toNat = i' := by omega
          have kk0 : (0 : Int) ≤ (j : Int) := by omega
          have kk1 : (j : Int) < (k : Int) := by omega
          have kk2 : ((j : Int)).toNat = j := by omega
          clear hra hat1 hat2 hat3 hat4 hx hle
          generalize (ahd cts l nc (j + 1)).getD i' 0 = nx at *
          generalize (ahd cts l nc j).getD i' 0 = ah at *
          generalize (rowY cts l nc j).getD i' sh0 = sh at *
          obtain ⟨sa, sb⟩ := sh
          dsimp only at u0 u1 u2 u3
          go_wp2_with fail
          go_quiet (fail)
          go_wp2_with fail
          go_roundw
          case rel => exact ⟨i' + 1, by omega, by go_num, ⟨hbl3.os, hbl3.tape, hbl3.output, hbl3.size, hbl3.block⟩⟩
          case measure => simp [intOf]; omega
    obtain ⟨b, off, rfl, hlt, hat⟩ := (HL.out.below hblw).2.2 (by omega)
    obtain ⟨c0, c1, c2⟩ := hat k hk
    have hS : Hid (smB (l.getD k bs0) ↔ ((-100000000000 ≤ (l.getD k bs0).c ∧ (l.getD k bs0).c ≤ 1000000000) ∧ (-100000000000 ≤ (l.getD k bs0).t ∧ (l.getD k bs0).t ≤ 1000000000) ∧ (-100000000000 ≤ (l.getD k bs0).s ∧ (l.getD k bs0).s ≤ 1000000000))) := Iff.rfl
    have hR := okA_b (HY.out k hk)
    unfold bsR at hR
    simp only [Bool.and_eq_true] at hR
    obtain ⟨hR1, hR2, hR3⟩ := hR
    have hR1 := mr_iff.1 hR1
    have hR2 := mr_iff.1 hR2
    have hR3 := mr_iff.1 hR3
    have HAT := Lib.hid hat
    clear hat
    generalize (l.getD k bs0).c = bc at *
    generalize (l.getD k bs0).t = bt at *
    generalize (l.getD k bs0).s = bs at *
    have bb := Blk.mk wr 59 #[.int .i64 bc, .int .i64 bt, .int .i64 bs]
    obtain ⟨q0, q1, q2⟩ := bb.all3
    by_cases o0 : 100000000000 < bc
    case pos =>
      omega
    by_cases u0 : bc < -100000000000
    case pos =>
      omega
    by_cases v0 : 1000000000 < bc
    case pos =>
      go_wp2_with fail
      refine wp_loop_rounds 4 ?_
      rw [rounds_succ]
      go_wp2_with fail
      go_ret
      exact ⟨rfl, bA hblw _⟩
    by_cases o1 : 100000000000 < bt
    case pos =>
      omega
    by_cases u1 : bt < -100000000000
    case pos =>
      omega
    by_cases v1 : 1000000000 < bt
    case pos =>
      go_wp2_with fail
      refine wp_loop_rounds 4 ?_
      rw [rounds_succ]
      go_wp2_with fail
      rw [rounds_succ]
      go_wp2_with fail
      go_ret
      exact ⟨rfl, bA hblw _⟩
    by_cases o2 : 100000000000 < bs
    case pos =>
      omega
    by_cases u2 : bs < -100000000000
    case pos =>
      omega
    by_cases v2 : 1000000000 < bs
    case pos =>
      go_wp2_with fail
      refine wp_loop_rounds 4 ?_
      rw [rounds_succ]
      go_wp2_with fail
      rw [rounds_succ]
      go_wp2_with fail
      rw [rounds_succ]
      go_wp2_with fail
      go_ret
      exact ⟨rfl, bA hblw _⟩
    have hsm := hS.out.2 ⟨⟨by omega, by omega⟩, ⟨by omega, by omega⟩, ⟨by omega, by omega⟩⟩
    have HSM := Lib.hid hsm
    clear hsm
    go_wp2_with fail
    refine wp_loop_rounds 4 ?_
    rw [rounds_succ]
    go_wp2_with fail
    rw [rounds_succ]
    go_wp2_with fail
    rw [rounds_succ]
    go_wp2_with fail
    rw [rounds_succ]
    go_wp2_with fail
    go_roundw
    case rel =>
      refine ⟨k + 1, by omega, by go_num, fun j hj => ?_, bA hbl _⟩
      rcases (by omega : j = k ∨ j < k) with rfl | hj
      · exact HSM.out
      · exact hM.out j hj
    case measure => simp [intOf]; omega
--%%
end Go.Proofs.Ytpheeblpfcipaaa
