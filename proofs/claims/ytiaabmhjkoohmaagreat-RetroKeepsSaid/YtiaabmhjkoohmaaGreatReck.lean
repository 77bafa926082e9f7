/-
 Contract of run.Reckon. Conditions as named.
-/
import Derived.Test.YtiaabmhjkoohmaaGreatM6
namespace Go.Proofs.YtiaabmhjkoohmaaGreat
set_option maxRecDepth 100000
set_option maxHeartbeats 25600000
set_option linter.unusedVariables false
set_option linter.unusedSimpArgs false
open Go.RowKit Tryz
open Lib (hid)
def bsL (z : Bs) : List Value := [.int .i64 z.c, .int .i64 z.t, .int .i64 z.s]
theorem bsL_len (z : Bs) : (bsL z).length = 3 := rfl
theorem bs_one (z : Bs) : ∀ u ∈ bsL z, u.oneCell' = true := by intro u hu; simp [bsL] at hu; rcases hu with rfl | rfl | rfl <;> rfl
theorem st_one (z : St) : ∀ u ∈ stC z, u.oneCell' = true := by intro u hu; simp [stC] at hu; rcases hu with rfl | rfl | rfl | rfl | rfl | rfl <;> rfl
theorem info_bs : (prog.info? 41).map (fun i => (i.zero, i.size, i.bytes)) = some (some (.agg #[.int .i64 0, .int .i64 0, .int .i64 0]), 3, 24) := by kernel_rfl
theorem info_stp : (prog.info? 164).map (fun i => (i.zero, i.size, i.bytes)) = some (some (.agg #[.int .i64 0, .int .i64 0, .int .i64 0, .int .i64 0, .bool false, .int .i64 0]), 6, 48) := by kernel_rfl
theorem row_bs {w : World} {A : Option Addr} {n : Nat} {l : List Bs} (h : Rlz bsL 3 bs0 w A n l) : BsSl w A n l := by
 refine ⟨h.1, h.2.1, fun h0 => ?_⟩
 obtain ⟨b, off, hA, hlt, hat⟩ := h.2.2 h0
 exact ⟨b, off, hA, hlt, fun k hk => ⟨hat k hk 0 _ rfl, hat k hk 1 _ rfl, hat k hk 2 _ rfl⟩⟩
def clC (Z : Cln) (A : Option Addr) (n a : Nat) (B : Option Addr) (m b : Nat) : Array Value := #[.slice A n a, .int .i64 Z.sum.c, .int .i64 Z.sum.t, .int .i64 Z.sum.s, .int .i64 Z.tax, .slice B m b]
structure ClnOwn (w : World) (base : Nat) (V : Cln) (A : Option Addr) (n a : Nat) (B : Option Addr) (m b : Nat) : Prop where
 lp : n = V.per.length
 ls : m = V.sh.length
 per : w.ownsRow base 41 3 (.slice A n a) n (V.per.flatMap bsL)
 sh : w.ownsRow base 79 2 (.slice B m b) m (V.sh.flatMap shC)
def ReckR (E : Int) (V : Cln) (w : World) (e : Ending) (w' : World) : Prop :=
 (∃ (Z : Cln) (A : Option Addr) (n a : Nat) (B : Option Addr) (m b : Nat), e = .returned (.tuple #[.agg (clC Z A n a B m b), .int .i64 E]) ∧ (E = 0 → Z = V ∧ ClnOwn w' w.heap.size V A n a B m b)) ∧ Below w.heap.size w w'
theorem firstNZ_at {f : Nat → Int} {k n : Nat} (h0 : ∀ j, j < k → f j = 0) (hk : f k ≠ 0) (hn : k < n) : fz9 f n = f k := fS9 f k n (firstNZ_zero f k h0) hk hn
theorem TYearR.u {sch : List (List Bd)} {rnd nom : Int} {l : List St} {n : Nat} {w w' : World} {e : Ending} (h : TYearR sch rnd nom l n w e w') :
  (∃ (A : Option Addr) (m c : Nat), e = .returned (.tuple #[.slice A m c, .int .i64 (fz9 (yE sch rnd nom l) n)]) ∧ (fz9 (yE sch rnd nom l) n = 0 → m = n ∧ I64Sl w' A n (dueL sch rnd nom l n))) ∧ Below w.heap.size w w' := by
 obtain ⟨⟨h0, v, he, ho⟩ | ⟨k, hk, h0, h1, he⟩, hb⟩ := h
 ·
  obtain ⟨A, c, rfl, _, hs⟩ := ho.sl
  have hz := firstNZ_zero _ n h0
  exact ⟨⟨A, n, c, by rw [he, hz], fun _ => ⟨rfl, hs⟩⟩, hb⟩
 ·
  have hz := firstNZ_at h0 h1 hk
  exact ⟨⟨none, 0, 0, by rw [he, hz], fun h => absurd (hz ▸ h) h1⟩, hb⟩
theorem ToDR.u {cts : List Ct} {l : List Bs} {nc n : Nat} {w w' : World} {e : Ending} (h : ToDR cts l nc n w e w') :
  (∃ (A : Option Addr) (m c : Nat), e = .returned (.tuple #[.slice A m c, .int .i64 (okE (okTb cts l nc n) 10)]) ∧ (okE (okTb cts l nc n) 10 = 0 → m = nc ∧ w'.ownsRow w.heap.size 79 2 (.slice A m c) m ((sumL (rowY cts l nc) nc n 0).flatMap shC))) ∧ Below w.heap.size w w' := by
 obtain ⟨⟨h0, v, he, ho⟩ | ⟨h0, he⟩, hb⟩ := h
 ·
  obtain ⟨A, c, rfl, _, hs⟩ := ho.sl
  have hz : okE (okTb cts l nc n) 10 = 0 := by unfold okE; rw [if_pos ((okTb_iff _ _ _ _).2 h0)]
  exact ⟨⟨A, nc, c, by rw [he, hz], fun _ => ⟨rfl, ho.2⟩⟩, hb⟩
 ·
  have hz : okE (okTb cts l nc n) 10 = 10 := by unfold okE; rw [if_neg (fun h => h0 ((okTb_iff _ _ _ _).1 h))]
  exact ⟨⟨none, 0, 0, by rw [he, hz], fun h => absurd (hz ▸ h) (by decide)⟩, hb⟩
--%
theorem reckon_c (t : Tb) (As Ac Ak A : Option Addr) (ns cs nc cc nk ck n c : Nat) (lim rnd : Int) (fq days : Int) (gy : Nat) (gr : Int) (l : List In) (w : World) (hs : ScSl w As ns t.sch) (hc : CtSl w Ac nc t.cts) (hkd : KdSl w Ak nk t.kds) (hr : rnd = t.rnd) (htb : keepE t = 0)
    (hf : nIz fq ≠ 0) (hd : 0 ≤ days ∧ days ≤ 366) (hy : YrAt w gy fq days) (hi : Inz w A n l) (hn : (n : Int) ≤ cntI fq days) (re : Int) (V : Cln) (he : Hid (re = rEz t (nIz fq) gr l)) (hv : Hid (V = reckV t (nIz fq) gr l)) :
    Calls prog 52 #[.agg #[.slice As ns cs, .slice Ac nc cc, .slice Ak nk ck, .int .i64 lim, .int .i64 rnd], .pointer (some ⟨gy, 0, none⟩), .int .i64 gr, .slice A n c] w (ReckR re V w) := by
  have HF0 := hid (Fr.start w)
  have htb0 : tbE t = 0 := by
    unfold keepE at htb
    by_cases h0 : tbE t = 0
    · exact h0
    · rw [if_pos h0] at htb; exact absurd htb h0
  obtain ⟨hok, hls, hlc, hlk, _⟩ := tb_of htb0
  have hnl := hi.len
  have hcn := cnt_le (fq := fq) hd
  have hn9 : n ≤ 53 := by omega
  have hns : ns = t.sch.length := hs.1
  have hnc : nc = t.cts.length := hc.1
  obtain ⟨L, hL1, hL2, hL3⟩ := hi.ex
  have HN2 : Hid (n = L.length) := hL2.1
  have HL1 := hid hL1
  have HLR := hid hL2
  have HLE := hid hL3
  have HNL := hid hnl
  have K1 := hid (fun (els : List El) (Aq : Option Addr) (nq kq : Nat) W (h1 : KdSl W Ak nk t.kds) (h2 : ElSl W Aq nq els) (re : Int) (rv : Bs) e1 e2 => bOf_c t.kds As Ac Ak ns cs nc cc nk ck lim rnd Aq nq kq els W h1 hok.kds h2 re rv e1 e2)
  have K2 := hid (fun (V1 : Bs) W (re : Int) (rv : Bs) e1 e2 => bMore_c V1 gr W re rv e1 e2)
  obtain ⟨PL, hPL⟩ : ∃ P : Nat → List Bs, P = persN t.kds gr l := ⟨_, rfl⟩
  obtain ⟨SL, hSL⟩ : ∃ P : Nat → List St, P = stepsN t.kds gr l := ⟨_, rfl⟩
  obtain ⟨EP, hEP⟩ : ∃ P : Nat → Int, P = perE t.kds gr l := ⟨_, rfl⟩
  obtain ⟨VP, hVP⟩ : ∃ P : Nat → Bs, P = perV t.kds gr l := ⟨_, rfl⟩
  obtain ⟨E2, hE2⟩ : ∃ E, E = fz9 (yE t.sch t.rnd (nIz fq) (SL n)) n := ⟨_, rfl⟩
  obtain ⟨E3, hE3⟩ : ∃ E, E = yEz (PL n) := ⟨_, rfl⟩
  obtain ⟨V3, hV3⟩ : ∃ E, E = yearV (PL n) := ⟨_, rfl⟩
  obtain ⟨E4, hE4⟩ : ∃ E, E = okE (okTb t.cts (PL n) nc n) 10 := ⟨_, rfl⟩
  obtain ⟨DL, hDL⟩ : ∃ E, E = dueL t.sch t.rnd (nIz fq) (SL n) n := ⟨_, rfl⟩
  obtain ⟨RL, hRL⟩ : ∃ E, E = sumL (rowY t.cts (PL n) nc) nc n 0 := ⟨_, rfl⟩
  have hPn : (PL n).length = n := by rw [hPL]; exact persN_len _ _ _ _
  have hSn : (SL n).length = n := by rw [hSL]; exact stepsN_len _ _ _ _
  have K3 : Hid (∀ W (h1 : Below w.heap.size w W) (A2 : Option Addr) (c2 : Nat) (h2 : StSl W A2 n (SL n)), Calls prog 81 #[.agg #[.slice As ns cs, .slice Ac nc cc, .slice Ak nk ck, .int .i64 lim, .int .i64 rnd], .pointer (some ⟨gy, 0, none⟩), .slice A2 n c2] W fun e w' => (∃ (A : Option Addr) (m c : Nat), e = .returned (.tuple #[.slice A m c, .int .i64 E2]) ∧ (E2 = 0 → m = n ∧ I64Sl w' A n DL)) ∧ Below W.heap.size W w') := fun W h1 A2 c2 h2 => by
    rw [hE2, hDL, hr]
    exact (tyear_c t.sch As Ac Ak A2 ns cs nc cc nk ck n c2 lim t.rnd fq days hf hd gy (SL n) W (hs.below h1) (fun k hk => (hok.sch k (by omega)).bands) hok.rnd (hy.t h1) h2 hn (by omega)).mono fun _ _ h => h.u
  have K4 := hid (fun W (A1 : Option Addr) (c1 : Nat) (h2 : BsSl W A1 n (PL n)) => bYear_c (PL n) A1 n c1 W h2 E3 V3 hE3 hV3)
  have K5 : Hid (∀ W (h1 : Below w.heap.size w W) (A1 : Option Addr) (c1 : Nat) (h2 : BsSl W A1 n (PL n)), Calls prog 83 #[.agg #[.slice As ns cs, .slice Ac nc cc, .slice Ak nk ck, .int .i64 lim, .int .i64 rnd], .slice A1 n c1] W fun e w' => (∃ (A : Option Addr) (m c : Nat), e = .returned (.tuple #[.slice A m c, .int .i64 E4]) ∧ (E4 = 0 → m = nc ∧ w'.ownsRow W.heap.size 79 2 (.slice A m c) m (RL.flatMap shC))) ∧ Below W.heap.size W w') := fun W h1 A1 c1 h2 => by
    rw [hE4, hRL]
    exact (todate_c t.cts As Ac Ak A1 ns cs nc cc nk ck n c1 lim rnd (PL n) W (hc.below h1) (fun k hk => hok.cts k (by omega)) h2 (by omega) (by omega)).mono fun _ _ h => h.u
  have H1 : Hid (re = sqz (fz9 EP n) (sqz E2 (sqz E3 E4))) := he.out.trans (by unfold rEz; rw [hE2, hE3, hE4, hEP, hSL, hPL, ← hnl, ← hnc])
  have HV : Hid (V = ⟨PL n, V3, dueA t.sch t.rnd (nIz fq) (SL n) n, RL⟩) := hv.out.trans (by unfold reckV; rw [hV3, hRL, hSL, hPL, ← hnl, ← hnc])
  have HRL : Hid (RL.length = nc) := by unfold Hid; rw [hRL]; simp [sumL]
  have HDA : Hid (∀ k, k + 1 = n → DL.getD k 0 = dueA t.sch t.rnd (nIz fq) (SL n) n) := fun k hk => by rw [hDL, ← hk]; simp [dueL]
  have HD0 : Hid (n = 0 → dueA t.sch t.rnd (nIz fq) (SL n) n = 0) := fun h => by rw [h]; rfl
  have HPN : Hid (∀ k, PL (k + 1) = PL k ++ [VP k]) := fun k => by rw [hPL, hVP]; exact persN_next _ _ _ _
  have HSN : Hid (∀ k, k < n → SL (k + 1) = SL k ++ [⟨(L.getD k inp0).z.c, (VP k).t⟩]) := fun k hk => by
    rw [hSL, hVP, stepsN_next, ← hL1]
    have := gmz' InP.z L k inp0 (by rw [← hL2.1]; exact hk)
    rw [show in0 = inp0.z from rfl, this]
  have HEP : Hid (∀ k, k < n → EP k = sqz (ofE t.kds (L.getD k inp0).z.l) (if k + 1 = n then bEz Ao9 (ofV t.kds (L.getD k inp0).z.l) ⟨gr, gr, gr⟩ else 0)) := fun k hk => by
    rw [hEP, ← hL1]
    unfold perE
    have := gmz' InP.z L k inp0 (by rw [← hL2.1]; exact hk)
    rw [show in0 = inp0.z from rfl, this, List.length_map, ← hL2.1]
  have HVP : Hid (∀ k, k < n → VP k = if k + 1 = n then bothV Ao9 (ofV t.kds (L.getD k inp0).z.l) ⟨gr, gr, gr⟩ else ofV t.kds (L.getD k inp0).z.l) := fun k hk => by
    rw [hVP, ← hL1]
    unfold perV
    have := gmz' InP.z L k inp0 (by rw [← hL2.1]; exact hk)
    rw [show in0 = inp0.z from rfl, this, List.length_map, ← hL2.1]
  have HPn := hid hPn
  have HSn := hid hSn
  have HKD := hid hkd
  have HP0 : Hid (PL 0 = []) := by unfold Hid; rw [hPL]; rfl
  have HS0 : Hid (SL 0 = []) := by unfold Hid; rw [hSL]; rfl
  clear hs hc hkd htb hy hi hn he hv htb0 hok hls hlc hlk hnl hcn hns hnc hL1 hL2 hL3 hPL hSL hEP hVP hE2 hE3 hV3 hE4 hDL hRL hPn hSn hf hd hr
  generalize t.kds = kds at *
  generalize dueA t.sch t.rnd (nIz fq) (SL n) n = DA at *
  unfold ReckR clC
  have HF1 := al9 ((((HF0.out.al 26 #[.slice As ns cs, .slice Ac nc cc, .slice Ak nk ck, .int .i64 lim, .int .i64 rnd]).al 121 #[.slice none 0 0, .int .i64 0, .int .i64 0, .int .i64 0, .int .i64 0, .slice none 0 0]).al 121 #[.slice none 0 0, .int .i64 0, .int .i64 0, .int .i64 0, .int .i64 0, .slice none 0 0]))
  clear HF0
  go_enter func52, ntmps52
  go_wp2_with fail
  have HF0 : Hid (Fr w _ [(w.heap.size, 26, #[.slice As ns cs, .slice Ac nc cc, .slice Ak nk ck, .int .i64 lim, .int .i64 rnd]), (w.heap.size + 1, 121, #[.slice none 0 0, .int .i64 0, .int .i64 0, .int .i64 0, .int .i64 0, .slice none 0 0]), (w.heap.size + 1 + 1, 121, #[.slice none 0 0, .int .i64 0, .int .i64 0, .int .i64 0, .int .i64 0, .slice none 0 0])]) := HF1
  go_loopw [11, 20] (fun st i wr => ∃ (k : Nat) (A1 : Option Addr) (c1 : Nat) (A2 : Option Addr) (c2 : Nat), k ≤ n ∧ i = .int .i64 k ∧ st = .slice A2 k c2 ∧ Hid (∀ j, j < k → EP j = 0) ∧ Hid (Fr w wr [(w.heap.size, 26, #[.slice As ns cs, .slice Ac nc cc, .slice Ak nk ck, .int .i64 lim, .int .i64 rnd]), (w.heap.size + 1, 121, #[.slice none 0 0, .int .i64 0, .int .i64 0, .int .i64 0, .int .i64 0, .slice none 0 0]), (w.heap.size + 1 + 1, 121, #[.slice A1 k c1, .int .i64 0, .int .i64 0, .int .i64 0, .int .i64 0, .slice none 0 0])]) ∧ Hid (wr.ownsRow w.heap.size 41 3 (.slice A1 k c1) k ((PL k).flatMap bsL)) ∧ Hid (wr.ownsRow w.heap.size 164 6 (.slice A2 k c2) k ((SL k).flatMap stC))) (fun _ i _ => n - (intOf i).toNat)
  case atStart => exact ⟨0, none, 0, none, 0, Nat.zero_le _, rfl, rfl, hid (fun j hj => absurd hj (by omega)), HF0, by rw [HP0.out]; exact hid (World.ownsRow_nil _ _ _ _), by rw [HS0.out]; exact hid (World.ownsRow_nil _ _ _ _)⟩
  case round =>
    clear HF0
    obtain ⟨k, A1, c1, A2, c2, hk', rfl, rfl, HZ, HFr, HO1, HO2⟩ := hrel
    by_cases hk : k < n
    case neg =>
      obtain rfl : k = n := by omega

      have HZE : Hid (fz9 EP k = 0) := firstNZ_zero EP k HZ.out
      have H2 : Hid (re = sqz E2 (sqz E3 E4)) := H1.out.trans (sE9 HZE.out)
      have HBS : Hid (∀ W, Below w.heap.size w W → W.ownsRow w.heap.size 41 3 (.slice A1 k c1) k ((PL k).flatMap bsL) → BsSl W A1 k (PL k)) := fun W _ ho => row_bs (ow9 bsL_len ho HPn.out.symm (by omega) (by decide))
      have HSS : Hid (StSl wr A2 k (SL k)) := ow9 stC_len HO2.out HSn.out.symm (by omega) (by decide)
      clear HZ HZE H1 K1 K2 HPN HSN HEP HVP HLR HLE HL1 HN2 HO2
      obtain ⟨c0_0, c0_1, c0_2, c0_3, c0_4⟩ := (HFr.out.b 0 rfl).q5
      obtain ⟨c1_0, c1_1, c1_2, c1_3, c1_4, c1_5⟩ := (HFr.out.b 1 rfl).q6
      obtain ⟨f1_0, f1_1, f1_2, f1_3, f1_4, f1_5⟩ := (HFr.out.b 1 rfl).r6
      go_wp2_with fail
      refine (K3.out _ HFr.out.bl A2 c2 HSS.out).mono ?_
      rintro e W1 ⟨⟨A3, m3, c3, rfl, hq3⟩, hb⟩
      have HQ3 := hid hq3
      clear hq3 HSS K3
      clear c0_0 c0_1 c0_2 c0_3 c0_4 c1_0 f1_0 c1_1 f1_1 c1_2 f1_2 c1_3 f1_3 c1_4 f1_4 c1_5 f1_5
      replace HO1 := hid (oB9 HO1.out hb)
      have HF1 := hid (HFr.out.ca hb)
      clear hb HFr
      obtain ⟨c1_0, c1_1, c1_2, c1_3, c1_4, c1_5⟩ := (HF1.out.b 1 rfl).q6
      obtain ⟨f1_0, f1_1, f1_2, f1_3, f1_4, f1_5⟩ := (HF1.out.b 1 rfl).r6
      by_cases h0 : E2 = 0
      case neg =>
        have tr : (E2 != 0) = true := by simpa using h0
        have HE : Hid (re = E2) := H2.out.trans (sN9 h0)
        have HN0 : Hid (re ≠ 0) := by unfold Hid; rw [HE.out]; exact h0
        clear h0
        obtain ⟨c1_0_1, c1_1_1, c1_2_1, c1_3_1, c1_4_1, c1_5_1⟩ := (HF1.out.b 1 rfl).q6
        obtain ⟨f1_0_1, f1_1_1, f1_2_1, f1_3_1, f1_4_1, f1_5_1⟩ := (HF1.out.b 1 rfl).r6
        go_wp2_with fail
        refine bodyPost_ret (v := .tuple #[.agg #[.slice none 0 0, .int .i64 0, .int .i64 0, .int .i64 0, .int .i64 0, .slice none 0 0], .int .i64 E2]) (by simp [results, results52, go_sem, c1_0, c1_1, c1_2, c1_3, c1_4, c1_5, c1_0_1, c1_1_1, c1_2_1, c1_3_1, c1_4_1, c1_5_1]) rfl ⟨⟨cln0, none, 0, 0, none, 0, 0, by rw [HE.out]; rfl, fun h => absurd h HN0.out⟩, ?_⟩
        have hg := HF1.out.ge 1 rfl
        exact b6z HF1.out.bl hg (.slice none 0 0) (.int .i64 0) (.int .i64 0) (.int .i64 0) (.int .i64 0) (.slice none 0 0)
      have H3 := hid (H2.out.trans (sE9 h0))
      subst h0
      obtain ⟨hm3, hi3⟩ := HQ3.out rfl
      obtain rfl := hm3.symm
      have HI3 := hid hi3
      clear HQ3 hi3
      by_cases hk0 : k = 0
      ·
        have HTX : Hid (DA = 0) := HD0.out hk0
        subst hk0
        have hz0 : ((0 : Nat) : Int) = 0 := rfl
        clear c1_0 f1_0 c1_1 f1_1 c1_2 f1_2 c1_3 f1_3 c1_4 f1_4 c1_5 f1_5
        have qz := HF1.out.b 2 rfl
        have c2_0 := qz.cv 0 (.slice A1 0 c1) rfl
        have c2_1 := qz.cv 1 (.int .i64 0) rfl
        have c2_2 := qz.cv 2 (.int .i64 0) rfl
        have c2_3 := qz.cv 3 (.int .i64 0) rfl
        have c2_4 := qz.cv 4 (.int .i64 0) rfl
        have c2_5 := qz.cv 5 (.slice none 0 0) rfl
        clear qz
        obtain ⟨c1_0, c1_1, c1_2, c1_3, c1_4, c1_5⟩ := (HF1.out.b 1 rfl).q6
        obtain ⟨f1_0, f1_1, f1_2, f1_3, f1_4, f1_5⟩ := (HF1.out.b 1 rfl).r6
        go_wp2_with fail
        refine (K4.out _ A1 c1 (HBS.out _ HF1.out.bl HO1.out)).mono ?_
        rintro e W4 ⟨rfl, hb⟩
        clear c2_0 c2_1 c2_2 c2_3 c2_4 c2_5 c1_0 f1_0 c1_1 f1_1 c1_2 f1_2 c1_3 f1_3 c1_4 f1_4 c1_5 f1_5
        replace HO1 := hid (oB9 HO1.out hb)
        have HF5 := hid (HF1.out.ca hb)
        clear hb K4 HF1
        obtain ⟨v3c, v3t, v3s⟩ := V3
        have qz := HF5.out.b 2 rfl
        have c2_0 := qz.cv 0 (.slice A1 0 c1) rfl
        have f2_0 := qz.free 0
        have c2_1 := qz.cv 1 (.int .i64 0) rfl
        have f2_1 := qz.free 1
        have c2_2 := qz.cv 2 (.int .i64 0) rfl
        have f2_2 := qz.free 2
        have c2_3 := qz.cv 3 (.int .i64 0) rfl
        have f2_3 := qz.free 3
        have c2_4 := qz.cv 4 (.int .i64 0) rfl
        have f2_4 := qz.free 4
        have c2_5 := qz.cv 5 (.slice none 0 0) rfl
        have f2_5 := qz.free 5
        clear qz
        obtain ⟨c1_0, c1_1, c1_2, c1_3, c1_4, c1_5⟩ := (HF5.out.b 1 rfl).q6
        obtain ⟨f1_0, f1_1, f1_2, f1_3, f1_4, f1_5⟩ := (HF5.out.b 1 rfl).r6
        obtain ⟨c0_0, c0_1, c0_2, c0_3, c0_4⟩ := (HF5.out.b 0 rfl).q5
        replace HO1 := hid (oS9 HO1.out (HF5.out.b 2 rfl) (by decide) 1 (.int .i64 v3c))
        have HF2 := hid (HF5.out.st 2 rfl 1 (.int .i64 v3c))
        clear HF5
        replace HO1 := hid (oS9 HO1.out (HF2.out.b 2 rfl) (by decide) 2 (.int .i64 v3t))
        have HF3 := hid (HF2.out.st 2 rfl 2 (.int .i64 v3t))
        clear HF2
        replace HO1 := hid (oS9 HO1.out (HF3.out.b 2 rfl) (by decide) 3 (.int .i64 v3s))
        have HF4 := hid (HF3.out.st 2 rfl 3 (.int .i64 v3s))
        clear HF3
        by_cases h0 : E3 = 0
        case neg =>
          have tr : (E3 != 0) = true := by simpa using h0
          have HE : Hid (re = E3) := H3.out.trans (sN9 h0)
          have HN0 : Hid (re ≠ 0) := by unfold Hid; rw [HE.out]; exact h0
          clear h0
          go_wp2_with fail
          refine bodyPost_ret (v := .tuple #[.agg #[.slice none 0 0, .int .i64 0, .int .i64 0, .int .i64 0, .int .i64 0, .slice none 0 0], .int .i64 E3]) (by simp [results, results52, go_sem, c1_0, c1_1, c1_2, c1_3, c1_4, c1_5]) rfl ⟨⟨cln0, none, 0, 0, none, 0, 0, by rw [HE.out]; rfl, fun h => absurd h HN0.out⟩, ?_⟩
          have hg := HF4.out.ge 1 rfl
          exact b6z HF4.out.bl hg (.slice none 0 0) (.int .i64 0) (.int .i64 0) (.int .i64 0) (.int .i64 0) (.slice none 0 0)
        have H4 := hid (H3.out.trans (sE9 h0))
        subst h0
        go_wp2_with fail
        refine (K5.out _ HF4.out.bl A1 c1 (HBS.out _ HF4.out.bl HO1.out)).mono ?_
        rintro e W5 ⟨⟨A5, m5, c5, rfl, hq5⟩, hb⟩
        have HQ5 : Hid (E4 = 0 → m5 = nc ∧ W5.ownsRow w.heap.size 79 2 (.slice A5 m5 c5) m5 (RL.flatMap shC)) := fun h => ⟨(hq5 h).1, oM9 (hq5 h).2 HF4.out.bl.size⟩
        clear hq5 K5
        clear c2_0 f2_0 c2_1 f2_1 c2_2 f2_2 c2_3 f2_3 c2_4 f2_4 c2_5 f2_5 c1_0 f1_0 c1_1 f1_1 c1_2 f1_2 c1_3 f1_3 c1_4 f1_4 c1_5 f1_5 c0_0 c0_1 c0_2 c0_3 c0_4
        replace HO1 := hid (oB9 HO1.out hb)
        have HF9 := hid (HF4.out.ca hb)
        clear hb HF4
        have HFk := HF9
        have qz := HF9.out.b 2 rfl
        have c2_0 := qz.cv 0 (.slice A1 0 c1) rfl
        have f2_0 := qz.free 0
        have c2_1 := qz.cv 1 (.int .i64 v3c) rfl
        have f2_1 := qz.free 1
        have c2_2 := qz.cv 2 (.int .i64 v3t) rfl
        have f2_2 := qz.free 2
        have c2_3 := qz.cv 3 (.int .i64 v3s) rfl
        have f2_3 := qz.free 3
        have c2_4 := qz.cv 4 (.int .i64 0) rfl
        have f2_4 := qz.free 4
        have c2_5 := qz.cv 5 (.slice none 0 0) rfl
        have f2_5 := qz.free 5
        clear qz
        obtain ⟨c1_0, c1_1, c1_2, c1_3, c1_4, c1_5⟩ := (HF9.out.b 1 rfl).q6
        obtain ⟨f1_0, f1_1, f1_2, f1_3, f1_4, f1_5⟩ := (HF9.out.b 1 rfl).r6
        replace HO1 := hid (oS9 HO1.out (HF9.out.b 2 rfl) (by decide) 5 (.slice A5 m5 c5))
        have HF5 := hid (HF9.out.st 2 rfl 5 (.slice A5 m5 c5))
        clear HF9
        by_cases h0 : E4 = 0
        case neg =>
          have tr : (E4 != 0) = true := by simpa using h0
          have HE : Hid (re = E4) := H4.out
          have HN0 : Hid (re ≠ 0) := by unfold Hid; rw [HE.out]; exact h0
          clear h0
          go_wp2_with fail
          refine bodyPost_ret (v := .tuple #[.agg #[.slice none 0 0, .int .i64 0, .int .i64 0, .int .i64 0, .int .i64 0, .slice none 0 0], .int .i64 E4]) (by simp [results, results52, go_sem, c1_0, c1_1, c1_2, c1_3, c1_4, c1_5]) rfl ⟨⟨cln0, none, 0, 0, none, 0, 0, by rw [HE.out]; rfl, fun h => absurd h HN0.out⟩, ?_⟩
          have hg := HF5.out.ge 1 rfl
          exact b6z HF5.out.bl hg (.slice none 0 0) (.int .i64 0) (.int .i64 0) (.int .i64 0) (.int .i64 0) (.slice none 0 0)
        have H5 : Hid (re = 0) := H4.out.trans h0
        subst h0
        obtain ⟨hm5, ho5⟩ := HQ5.out rfl
        have HM5 := hid hm5
        have HO5 := hid (oS9 ho5 (HFk.out.b 2 rfl) (by decide) 5 (.slice A5 m5 c5))
        clear HQ5 hm5 ho5 HFk
        go_wp2_with fail
        have hg := HF5.out.ge 1 rfl
        refine bodyPost_ret (v := .tuple #[.agg #[.slice A1 0 c1, .int .i64 v3c, .int .i64 v3t, .int .i64 v3s, .int .i64 0, .slice A5 m5 c5], .int .i64 0]) (by simp [results, results52, go_sem, c1_0, c1_1, c1_2, c1_3, c1_4, c1_5]) rfl ⟨⟨⟨PL 0, ⟨v3c, v3t, v3s⟩, DA, RL⟩, A1, 0, c1, A5, m5, c5, by rw [H5.out]; rw [HTX.out], fun _ => ⟨HV.out.symm, ?_⟩⟩, b6z HF5.out.bl hg (.slice A1 0 c1) (.int .i64 v3c) (.int .i64 v3t) (.int .i64 v3s) (.int .i64 0) (.slice A5 m5 c5)⟩
        rw [HV.out]
        exact ⟨HPn.out.symm, HM5.out.trans HRL.out.symm, own_put6 HO1.out (HF5.out.b 1 rfl) (by decide) (.slice A1 0 c1) (.int .i64 v3c) (.int .i64 v3t) (.int .i64 v3s) (.int .i64 0) (.slice A5 m5 c5), own_put6 HO5.out (HF5.out.b 1 rfl) (by decide) (.slice A1 0 c1) (.int .i64 v3c) (.int .i64 v3t) (.int .i64 v3s) (.int .i64 0) (.slice A5 m5 c5)⟩
      ·
        have t0 : decide ((0 : Int) < (k : Int)) = true := by simp; omega
        have hw : IntKind.i64.wrap ((k : Int) - 1) = (k : Int) - 1 := by rw [IntKind.wrap_i64]; omega
        have hw1 : (0 : Int) ≤ (k : Int) - 1 := by omega
        have hw2 : (k : Int) - 1 < (k : Int) := by omega
        have hw3 : ((k : Int) - 1).toNat = k - 1 := by omega
        obtain ⟨b3, off3, rfl, hlt3, hat3⟩ := HI3.out.2.2 (by omega)
        have hc3 := hat3 (k - 1) (by omega)
        rw [HDA.out (k - 1) (by omega)] at hc3
        clear hat3
        have dd3 := hc3
        clear c1_0 f1_0 c1_1 f1_1 c1_2 f1_2 c1_3 f1_3 c1_4 f1_4 c1_5 f1_5
        have c2_4 := (HF1.out.b 2 rfl).cv 4 (.int .i64 0) rfl
        have f2_4 := (HF1.out.b 2 rfl).free 4
        go_upto_region 21 with fail
        replace HO1 := hid (oS9 HO1.out (HF1.out.b 2 rfl) (by decide) 4 (.int .i64 DA))
        have HF2 := hid (HF1.out.st 2 rfl 4 (.int .i64 DA))
        clear HF1
        clear hw hw1 hw2 hw3 hc3 dd3
        clear c2_4 f2_4
        have qz := HF2.out.b 2 rfl
        have c2_0 := qz.cv 0 (.slice A1 k c1) rfl
        have c2_1 := qz.cv 1 (.int .i64 0) rfl
        have c2_2 := qz.cv 2 (.int .i64 0) rfl
        have c2_3 := qz.cv 3 (.int .i64 0) rfl
        have c2_4 := qz.cv 4 (.int .i64 DA) rfl
        have c2_5 := qz.cv 5 (.slice none 0 0) rfl
        clear qz
        obtain ⟨c1_0, c1_1, c1_2, c1_3, c1_4, c1_5⟩ := (HF2.out.b 1 rfl).q6
        obtain ⟨f1_0, f1_1, f1_2, f1_3, f1_4, f1_5⟩ := (HF2.out.b 1 rfl).r6
        go_wp2_with fail
        refine (K4.out _ A1 c1 (HBS.out _ HF2.out.bl HO1.out)).mono ?_
        rintro e W4 ⟨rfl, hb⟩
        clear c2_0 c2_1 c2_2 c2_3 c2_4 c2_5 c1_0 f1_0 c1_1 f1_1 c1_2 f1_2 c1_3 f1_3 c1_4 f1_4 c1_5 f1_5
        replace HO1 := hid (oB9 HO1.out hb)
        have HF5 := hid (HF2.out.ca hb)
        clear hb K4 HF2
        obtain ⟨v3c, v3t, v3s⟩ := V3
        have qz := HF5.out.b 2 rfl
        have c2_0 := qz.cv 0 (.slice A1 k c1) rfl
        have f2_0 := qz.free 0
        have c2_1 := qz.cv 1 (.int .i64 0) rfl
        have f2_1 := qz.free 1
        have c2_2 := qz.cv 2 (.int .i64 0) rfl
        have f2_2 := qz.free 2
        have c2_3 := qz.cv 3 (.int .i64 0) rfl
        have f2_3 := qz.free 3
        have c2_4 := qz.cv 4 (.int .i64 DA) rfl
        have f2_4 := qz.free 4
        have c2_5 := qz.cv 5 (.slice none 0 0) rfl
        have f2_5 := qz.free 5
        clear qz
        obtain ⟨c1_0, c1_1, c1_2, c1_3, c1_4, c1_5⟩ := (HF5.out.b 1 rfl).q6
        obtain ⟨f1_0, f1_1, f1_2, f1_3, f1_4, f1_5⟩ := (HF5.out.b 1 rfl).r6
        obtain ⟨c0_0, c0_1, c0_2, c0_3, c0_4⟩ := (HF5.out.b 0 rfl).q5
        replace HO1 := hid (oS9 HO1.out (HF5.out.b 2 rfl) (by decide) 1 (.int .i64 v3c))
        have HF3 := hid (HF5.out.st 2 rfl 1 (.int .i64 v3c))
        clear HF5
        replace HO1 := hid (oS9 HO1.out (HF3.out.b 2 rfl) (by decide) 2 (.int .i64 v3t))
        have HF4 := hid (HF3.out.st 2 rfl 2 (.int .i64 v3t))
        clear HF3
        replace HO1 := hid (oS9 HO1.out (HF4.out.b 2 rfl) (by decide) 3 (.int .i64 v3s))
        have HF5 := hid (HF4.out.st 2 rfl 3 (.int .i64 v3s))
        clear HF4
        by_cases h0 : E3 = 0
        case neg =>
          have tr : (E3 != 0) = true := by simpa using h0
          have HE : Hid (re = E3) := H3.out.trans (sN9 h0)
          have HN0 : Hid (re ≠ 0) := by unfold Hid; rw [HE.out]; exact h0
          clear h0
          go_wp2_with fail
          refine bodyPost_ret (v := .tuple #[.agg #[.slice none 0 0, .int .i64 0, .int .i64 0, .int .i64 0, .int .i64 0, .slice none 0 0], .int .i64 E3]) (by simp [results, results52, go_sem, c1_0, c1_1, c1_2, c1_3, c1_4, c1_5]) rfl ⟨⟨cln0, none, 0, 0, none, 0, 0, by rw [HE.out]; rfl, fun h => absurd h HN0.out⟩, ?_⟩
          have hg := HF5.out.ge 1 rfl
          exact b6z HF5.out.bl hg (.slice none 0 0) (.int .i64 0) (.int .i64 0) (.int .i64 0) (.int .i64 0) (.slice none 0 0)
        have H4 := hid (H3.out.trans (sE9 h0))
        subst h0
        go_wp2_with fail
        refine (K5.out _ HF5.out.bl A1 c1 (HBS.out _ HF5.out.bl HO1.out)).mono ?_
        rintro e W5 ⟨⟨A5, m5, c5, rfl, hq5⟩, hb⟩
        have HQ5 : Hid (E4 = 0 → m5 = nc ∧ W5.ownsRow w.heap.size 79 2 (.slice A5 m5 c5) m5 (RL.flatMap shC)) := fun h => ⟨(hq5 h).1, oM9 (hq5 h).2 HF5.out.bl.size⟩
        clear hq5 K5
        clear c2_0 f2_0 c2_1 f2_1 c2_2 f2_2 c2_3 f2_3 c2_4 f2_4 c2_5 f2_5 c1_0 f1_0 c1_1 f1_1 c1_2 f1_2 c1_3 f1_3 c1_4 f1_4 c1_5 f1_5 c0_0 c0_1 c0_2 c0_3 c0_4
        replace HO1 := hid (oB9 HO1.out hb)
        have HF9 := hid (HF5.out.ca hb)
        clear hb HF5
        have HFk := HF9
        have qz := HF9.out.b 2 rfl
        have c2_0 := qz.cv 0 (.slice A1 k c1) rfl
        have f2_0 := qz.free 0
        have c2_1 := qz.cv 1 (.int .i64 v3c) rfl
        have f2_1 := qz.free 1
        have c2_2 := qz.cv 2 (.int .i64 v3t) rfl
        have f2_2 := qz.free 2
        have c2_3 := qz.cv 3 (.int .i64 v3s) rfl
        have f2_3 := qz.free 3
        have c2_4 := qz.cv 4 (.int .i64 DA) rfl
        have f2_4 := qz.free 4
        have c2_5 := qz.cv 5 (.slice none 0 0) rfl
        have f2_5 := qz.free 5
        clear qz
        obtain ⟨c1_0, c1_1, c1_2, c1_3, c1_4, c1_5⟩ := (HF9.out.b 1 rfl).q6
        obtain ⟨f1_0, f1_1, f1_2, f1_3, f1_4, f1_5⟩ := (HF9.out.b 1 rfl).r6
        replace HO1 := hid (oS9 HO1.out (HF9.out.b 2 rfl) (by decide) 5 (.slice A5 m5 c5))
        have HF6 := hid (HF9.out.st 2 rfl 5 (.slice A5 m5 c5))
        clear HF9
        by_cases h0 : E4 = 0
        case neg =>
          have tr : (E4 != 0) = true := by simpa using h0
          have HE : Hid (re = E4) := H4.out
          have HN0 : Hid (re ≠ 0) := by unfold Hid; rw [HE.out]; exact h0
          clear h0
          go_wp2_with fail
          refine bodyPost_ret (v := .tuple #[.agg #[.slice none 0 0, .int .i64 0, .int .i64 0, .int .i64 0, .int .i64 0, .slice none 0 0], .int .i64 E4]) (by simp [results, results52, go_sem, c1_0, c1_1, c1_2, c1_3, c1_4, c1_5]) rfl ⟨⟨cln0, none, 0, 0, none, 0, 0, by rw [HE.out]; rfl, fun h => absurd h HN0.out⟩, ?_⟩
          have hg := HF6.out.ge 1 rfl
          exact b6z HF6.out.bl hg (.slice none 0 0) (.int .i64 0) (.int .i64 0) (.int .i64 0) (.int .i64 0) (.slice none 0 0)
        have H5 : Hid (re = 0) := H4.out.trans h0
        subst h0
        obtain ⟨hm5, ho5⟩ := HQ5.out rfl
        have HM5 := hid hm5
        have HO5 := hid (oS9 ho5 (HFk.out.b 2 rfl) (by decide) 5 (.slice A5 m5 c5))
        clear HQ5 hm5 ho5 HFk
        go_wp2_with fail
        have hg := HF6.out.ge 1 rfl
        refine bodyPost_ret (v := .tuple #[.agg #[.slice A1 k c1, .int .i64 v3c, .int .i64 v3t, .int .i64 v3s, .int .i64 DA, .slice A5 m5 c5], .int .i64 0]) (by simp [results, results52, go_sem, c1_0, c1_1, c1_2, c1_3, c1_4, c1_5]) rfl ⟨⟨⟨PL k, ⟨v3c, v3t, v3s⟩, DA, RL⟩, A1, k, c1, A5, m5, c5, by rw [H5.out], fun _ => ⟨HV.out.symm, ?_⟩⟩, b6z HF6.out.bl hg (.slice A1 k c1) (.int .i64 v3c) (.int .i64 v3t) (.int .i64 v3s) (.int .i64 DA) (.slice A5 m5 c5)⟩
        rw [HV.out]
        exact ⟨HPn.out.symm, HM5.out.trans HRL.out.symm, own_put6 HO1.out (HF6.out.b 1 rfl) (by decide) (.slice A1 k c1) (.int .i64 v3c) (.int .i64 v3t) (.int .i64 v3s) (.int .i64 DA) (.slice A5 m5 c5), own_put6 HO5.out (HF6.out.b 1 rfl) (by decide) (.slice A1 k c1) (.int .i64 v3c) (.int .i64 v3t) (.int .i64 v3s) (.int .i64 DA) (.slice A5 m5 c5)⟩
    obtain ⟨b, off, rfl, hlt, hat⟩ := (HLR.out.below HFr.out.bl).2.2 (by omega)
    have hc := hat k hk
    have hqm := gez' inp0 (l := L) (k := k) (by rw [← HN2.out]; exact hk)
    have HEk : Hid _ := HEP.out k hk
    have HVk : Hid _ := HVP.out k hk
    have HSk : Hid _ := HSN.out k hk
    have HPk : Hid _ := HPN.out k
    have HLEk : Hid _ := HLE.out _ hqm
    clear hat hqm HEP HVP HSN HPN K3 K4 K5 HV HRL HDA HD0 HP0 HS0
    generalize L.getD k inp0 = q at *
    obtain ⟨⟨⟨s, kd, a, f, al⟩, els⟩, Aq, nq, kq⟩ := q
    obtain ⟨c0, c1', c2', c3, c4, c5⟩ : wr.cell? ⟨b, off + k * 6, none⟩ = some (.int .i64 s) ∧ wr.cell? ⟨b, off + k * 6 + 1, none⟩ = some (.int .i64 kd) ∧ wr.cell? ⟨b, off + k * 6 + 2, none⟩ = some (.int .i64 a) ∧ wr.cell? ⟨b, off + k * 6 + 3, none⟩ = some (.int .i64 f) ∧ wr.cell? ⟨b, off + k * 6 + 4, none⟩ = some (.bool al) ∧ wr.cell? ⟨b, off + k * 6 + 5, none⟩ = some (.slice Aq nq kq) := ⟨hc 0 _ rfl, hc 1 _ rfl, hc 2 _ rfl, hc 3 _ rfl, hc 4 _ rfl, hc 5 _ rfl⟩
    dsimp only at HEk HVk HSk HLEk
    obtain ⟨E1, hE1⟩ : ∃ E1, E1 = ofE kds els := ⟨_, rfl⟩
    obtain ⟨V1, hV1⟩ : ∃ E1, E1 = ofV kds els := ⟨_, rfl⟩
    have K1k := hid (fun W h1 h2 => K1.out els Aq nq kq W h1 h2 E1 V1 hE1 hV1)
    unfold Hid at HEk HVk HSk HPk HLEk
    rw [← hE1, ← hV1] at HEk
    rw [← hV1] at HVk
    have HSTOP : Hid (EP k ≠ 0 → re = EP k) := fun h => H1.out.trans (by rw [firstNZ_at HZ.out h hk]; exact sN9 h)
    have HNX : Hid (EP k = 0 → ∀ j, j < k + 1 → EP j = 0) := fun h j hj => by
      rcases (by omega : j = k ∨ j < k) with rfl | hj
      · exact h
      · exact HZ.out j hj
    have HS1 : Hid (E1 ≠ 0 → re = E1) := fun h => by
      have h1 : EP k = E1 := HEk.trans (sN9 h)
      rw [← h1]
      exact HSTOP.out (by rw [h1]; exact h)
    have hw : IntKind.i64.wrap ((n : Int) - 1) = (n : Int) - 1 := by rw [IntKind.wrap_i64]; omega
    replace HEk := hid HEk
    replace HVk := hid HVk
    replace HSk := hid HSk
    replace HPk := hid HPk
    replace HLEk := hid HLEk
    clear hc hE1 hV1 K1 HZ H1
    have HLW : Hid (∀ v : Value, ∀ e sz m xs, wr.ownsRow w.heap.size e sz v m xs → ∀ g, v.ownBlock = some g → w.heap.size ≤ g ∧ g < wr.heap.size) := fun v e sz m xs h => h.lt
    have HL1' := hid (HLW.out _ _ _ _ _ HO1.out)
    have HL2' := hid (HLW.out _ _ _ _ _ HO2.out)
    have hlt2 : Hid (w.heap.size + 1 + 1 < wr.heap.size) := (HFr.out.b 2 rfl).lt
    clear HLW
    replace HO1 := hid (HO1.out.alloc (.cells #[.int .i64 s, .int .i64 kd, .int .i64 a, .int .i64 f, .bool al, .slice Aq nq kq] 67))
    replace HO2 := hid (HO2.out.alloc (.cells #[.int .i64 s, .int .i64 kd, .int .i64 a, .int .i64 f, .bool al, .slice Aq nq kq] 67))
    have HF101 := al9 ((HFr.out.al 67 #[.int .i64 s, .int .i64 kd, .int .i64 a, .int .i64 f, .bool al, .slice Aq nq kq]))
    clear HFr
    have c3_5 := (HF101.out.b 3 rfl).cv 5 (.slice Aq nq kq) rfl
    obtain ⟨c0_0, c0_1, c0_2, c0_3, c0_4⟩ := (HF101.out.b 0 rfl).q5
    go_wp2_with fail
    refine (K1k.out _ (HKD.out.below HF101.out.bl) (Rlz.below (f := elC) (K := 3) (d := el0) HLEk.out HF101.out.bl)).mono ?_
    rintro e W2 ⟨rfl, hb⟩
    clear c0 c1' c2' c3 c4 c5
    clear c3_5 c0_0 c0_1 c0_2 c0_3 c0_4
    replace HO1 := hid (oB9 HO1.out hb)
    replace HO2 := hid (oB9 HO2.out hb)
    have HSZ2 : Hid (wr.heap.size + 1 ≤ W2.heap.size) := by have := hb.size; unfold Hid; simpa using this
    have HG1 := hid (HF101.out.ca hb)
    clear hb K1k HF101
    obtain ⟨v1c, v1t, v1s⟩ := V1
    replace HO1 := hid (HO1.out.alloc (.cells #[.int .i64 v1c, .int .i64 v1t, .int .i64 v1s] 41))
    replace HO2 := hid (HO2.out.alloc (.cells #[.int .i64 v1c, .int .i64 v1t, .int .i64 v1s] 41))
    have HF102 := al9 ((HG1.out.al 41 #[.int .i64 v1c, .int .i64 v1t, .int .i64 v1s]))
    clear HG1
    obtain ⟨c1_0, c1_1, c1_2, c1_3, c1_4, c1_5⟩ := (HF102.out.b 1 rfl).q6
    obtain ⟨f1_0, f1_1, f1_2, f1_3, f1_4, f1_5⟩ := (HF102.out.b 1 rfl).r6
    by_cases h0 : E1 = 0
    case neg =>
      have tr : (E1 != 0) = true := by simpa using h0
      have HE := hid (HS1.out h0)
      have HN0 : Hid (re ≠ 0) := by unfold Hid; rw [HE.out]; exact h0
      clear h0 HS1
      obtain ⟨c1_0_102, c1_1_102, c1_2_102, c1_3_102, c1_4_102, c1_5_102⟩ := (HF102.out.b 1 rfl).q6
      obtain ⟨f1_0_102, f1_1_102, f1_2_102, f1_3_102, f1_4_102, f1_5_102⟩ := (HF102.out.b 1 rfl).r6
      go_wp2_with fail
      refine bodyPost_ret (v := .tuple #[.agg #[.slice none 0 0, .int .i64 0, .int .i64 0, .int .i64 0, .int .i64 0, .slice none 0 0], .int .i64 E1]) (by simp [results, results52, go_sem, c1_0, c1_1, c1_2, c1_3, c1_4, c1_5, c1_0_102, c1_1_102, c1_2_102, c1_3_102, c1_4_102, c1_5_102]) rfl ⟨⟨cln0, none, 0, 0, none, 0, 0, by rw [HE.out]; rfl, fun h => absurd h HN0.out⟩, ?_⟩
      have hg := HF102.out.ge 1 rfl
      exact b6z HF102.out.bl hg (.slice none 0 0) (.int .i64 0) (.int .i64 0) (.int .i64 0) (.int .i64 0) (.slice none 0 0)
    replace HEk := hid (HEk.out.trans (sE9 h0))
    subst h0
    clear HS1
    by_cases hl : k + 1 = n
    ·
      have t1 : ((k : Int) == (n : Int) - 1) = true := by simp; omega
      unfold Hid at HEk HVk
      rw [if_pos hl] at HEk HVk
      clear hl
      obtain ⟨E5, hE5⟩ : ∃ E5, E5 = bEz Ao9 ⟨v1c, v1t, v1s⟩ ⟨gr, gr, gr⟩ := ⟨_, rfl⟩
      obtain ⟨V5, hV5⟩ : ∃ E5, E5 = bothV Ao9 ⟨v1c, v1t, v1s⟩ ⟨gr, gr, gr⟩ := ⟨_, rfl⟩
      have K2k := hid (fun W => K2.out ⟨v1c, v1t, v1s⟩ W E5 V5 hE5 hV5)
      rw [← hE5] at HEk
      rw [← hV5] at HVk
      have HS5 : Hid (E5 ≠ 0 → re = E5) := fun h => by rw [← HEk]; exact HSTOP.out (by rw [HEk]; exact h)
      replace HEk := hid HEk
      replace HVk := hid HVk
      obtain ⟨v5c, v5t, v5s⟩ := V5
      clear hE5 hV5 K2
      dsimp only at K2k
      clear c1_0 f1_0 c1_1 f1_1 c1_2 f1_2 c1_3 f1_3 c1_4 f1_4 c1_5 f1_5
      have qz := HF102.out.b 4 rfl
      have c4_0 := qz.cv 0 (.int .i64 v1c) rfl
      have c4_1 := qz.cv 1 (.int .i64 v1t) rfl
      have c4_2 := qz.cv 2 (.int .i64 v1s) rfl
      clear qz
      go_wp2_with fail
      refine (K2k.out _).mono ?_
      rintro e W3 ⟨rfl, hb⟩
      clear t1 hw
      clear c4_0 c4_1 c4_2
      replace HO1 := hid (oB9 HO1.out hb)
      replace HO2 := hid (oB9 HO2.out hb)
      have HG5 := hid (HF102.out.ca hb)
      clear hb K2k HF102
      have qz := HG5.out.b 4 rfl
      have c4_0 := qz.cv 0 (.int .i64 v1c) rfl
      have f4_0 := qz.free 0
      have c4_1 := qz.cv 1 (.int .i64 v1t) rfl
      have f4_1 := qz.free 1
      have c4_2 := qz.cv 2 (.int .i64 v1s) rfl
      have f4_2 := qz.free 2
      clear qz
      obtain ⟨c1_0, c1_1, c1_2, c1_3, c1_4, c1_5⟩ := (HG5.out.b 1 rfl).q6
      obtain ⟨f1_0, f1_1, f1_2, f1_3, f1_4, f1_5⟩ := (HG5.out.b 1 rfl).r6
      have hq0 := hlt2.out
      have hq2 := HSZ2.out
      have hr1 : ¬ w.heap.size + 1 = W2.heap.size := by omega
      have hr2 : ¬ W2.heap.size = w.heap.size + 1 := by omega
      clear hq0 hq2
      replace HO1 := hid (HO1.out.kept (gJ9 _ W2.heap.size 0 (.int .i64 v5c)) (Or.inr (fun he => by have h1 := (HL1'.out _ he).2; have h2 := HSZ2.out; omega)))
      replace HO2 := hid (oS9 HO2.out (HG5.out.b 4 rfl) (by decide) 0 (.int .i64 v5c))
      have HF103 := hid (HG5.out.st 4 rfl 0 (.int .i64 v5c))
      clear HG5
      replace HO1 := hid (HO1.out.kept (gJ9 _ W2.heap.size 1 (.int .i64 v5t)) (Or.inr (fun he => by have h1 := (HL1'.out _ he).2; have h2 := HSZ2.out; omega)))
      replace HO2 := hid (oS9 HO2.out (HF103.out.b 4 rfl) (by decide) 1 (.int .i64 v5t))
      have HF104 := hid (HF103.out.st 4 rfl 1 (.int .i64 v5t))
      clear HF103
      replace HO1 := hid (HO1.out.kept (gJ9 _ W2.heap.size 2 (.int .i64 v5s)) (Or.inr (fun he => by have h1 := (HL1'.out _ he).2; have h2 := HSZ2.out; omega)))
      replace HO2 := hid (oS9 HO2.out (HF104.out.b 4 rfl) (by decide) 2 (.int .i64 v5s))
      have HF105 := hid (HF104.out.st 4 rfl 2 (.int .i64 v5s))
      clear HF104
      by_cases h0 : E5 = 0
      case neg =>
        have tr : (E5 != 0) = true := by simpa using h0
        have HE := hid (HS5.out h0)
        have HN0 : Hid (re ≠ 0) := by unfold Hid; rw [HE.out]; exact h0
        clear h0 HS5
        go_wp2_with fail
        refine bodyPost_ret (v := .tuple #[.agg #[.slice none 0 0, .int .i64 0, .int .i64 0, .int .i64 0, .int .i64 0, .slice none 0 0], .int .i64 E5]) (by simp [results, results52, go_sem, c1_0, c1_1, c1_2, c1_3, c1_4, c1_5]) rfl ⟨⟨cln0, none, 0, 0, none, 0, 0, by rw [HE.out]; rfl, fun h => absurd h HN0.out⟩, ?_⟩
        have hg := HF105.out.ge 1 rfl
        exact b6z HF105.out.bl hg (.slice none 0 0) (.int .i64 0) (.int .i64 0) (.int .i64 0) (.int .i64 0) (.slice none 0 0)
      have HE0 := hid (HEk.out.trans h0)
      have HVB := HVk
      subst h0
      clear HS5
      go_upto_region 13 with fail
      clear c4_0 f4_0 c4_1 f4_1 c4_2 f4_2 c1_0 f1_0 c1_1 f1_1 c1_2 f1_2 c1_3 f1_3 c1_4 f1_4 c1_5 f1_5
      generalize hwz : (((W3).setCell ⟨W2.heap.size, 0, none⟩ (.int .i64 v5c)).setCell ⟨W2.heap.size, 1, none⟩ (.int .i64 v5t)).setCell ⟨W2.heap.size, 2, none⟩ (.int .i64 v5s) = wz at *
      clear hwz
      have c2_0 := (HF105.out.b 2 rfl).cv 0 (.slice A1 k c1) rfl
      have f2_0 := (HF105.out.b 2 rfl).free 0
      have qz := HF105.out.b 4 rfl
      have c4_0 := qz.cv 0 (.int .i64 v5c) rfl
      have c4_1 := qz.cv 1 (.int .i64 v5t) rfl
      have c4_2 := qz.cv 2 (.int .i64 v5s) rfl
      clear qz
      have qz := HF105.out.b 3 rfl
      have c3_0 := qz.cv 0 (.int .i64 s) rfl
      have c3_1 := qz.cv 1 (.int .i64 kd) rfl
      have c3_2 := qz.cv 2 (.int .i64 a) rfl
      have c3_3 := qz.cv 3 (.int .i64 f) rfl
      have c3_4 := qz.cv 4 (.bool al) rfl
      clear qz
      have hq0 := hlt2.out
      have hq2 := HSZ2.out
      have hq1 : ¬ wr.heap.size = w.heap.size + 1 + 1 := by omega
      have hq3 : ¬ W2.heap.size = w.heap.size + 1 + 1 := by omega
      have hq4 : ¬ w.heap.size + 1 + 1 = wr.heap.size := by omega
      have hq5 : ¬ w.heap.size + 1 + 1 = W2.heap.size := by omega
      have NE1 := hid (show ∀ x ∈ ([(w.heap.size, 26, #[.slice As ns cs, .slice Ac nc cc, .slice Ak nk ck, .int .i64 lim, .int .i64 rnd]), (w.heap.size + 1, 121, #[.slice none 0 0, .int .i64 0, .int .i64 0, .int .i64 0, .int .i64 0, .slice none 0 0]), (w.heap.size + 1 + 1, 121, #[.slice A1 k c1, .int .i64 0, .int .i64 0, .int .i64 0, .int .i64 0, .slice none 0 0]), (wr.heap.size, 67, #[.int .i64 s, .int .i64 kd, .int .i64 a, .int .i64 f, .bool al, .slice Aq nq kq]), (W2.heap.size, 41, #[.int .i64 v5c, .int .i64 v5t, .int .i64 v5s])] : List (Nat × TypeId × Array Value)), some x.1 ≠ (Value.slice A1 k c1).ownBlock from (fun x hx => by
            simp only [List.nil_append, List.cons_append, List.mem_cons, List.not_mem_nil, or_false] at hx
            intro he
            have hlx := HL1'.out _ he.symm
            have := HSZ2.out
            rcases hx with rfl | rfl | rfl | rfl | rfl
            · exact obz HO1.out (HF105.out.b 0 rfl) (by decide) he
            · exact obz HO1.out (HF105.out.b 1 rfl) (by decide) he
            · exact obz HO1.out (HF105.out.b 2 rfl) (by decide) he
            · dsimp only at hlx; omega
            · dsimp only at hlx; omega))
      go_wp2_with (first
        | (at_builtin; refine wa9 _ rfl _ _ 119 rfl 41 _ 3 24 underlying119 info_bs rfl (by decide) rfl HO1.out #[.int .i64 v5c, .int .i64 v5t, .int .i64 v5s] rfl (by first | rfl | simp) rfl (bs_one ⟨v5c, v5t, v5s⟩) (by omega) (by omega) (by have := HF105.out.bl.size; first | omega | (simp; omega)) ?_; intro v' w6 ho' hg; obtain ⟨A6, c6, rfl⟩ := oL9 ho'; have HP6 := hid ho'; have HG6 := hid (HF105.out.gr hg (fun k hk => (HL1'.out k hk).1) NE1.out); have HR6 := hid (HO2.out.kept hg (ooz HO2.out HO1.out (by decide))); clear ho' hg; have c20 := (HG6.out.b 2 rfl).cv 0 (.slice A1 k c1) rfl; have f20 := (HG6.out.b 2 rfl).free 0; have HG7 := hid (HG6.out.st 2 rfl 0 (.slice A6 (k + 1) c6)); have HP7 := hid (oS9 HP6.out (HG6.out.b 2 rfl) (by decide) 0 (.slice A6 (k + 1) c6)); have HR7 := hid (oS9 HR6.out (HG6.out.b 2 rfl) (by decide) 0 (.slice A6 (k + 1) c6)); have e3_0 := (HG6.out.b 3 rfl).cv 0 (.int .i64 s) rfl; have e3_1 := (HG6.out.b 3 rfl).cv 1 (.int .i64 kd) rfl; have e3_2 := (HG6.out.b 3 rfl).cv 2 (.int .i64 a) rfl; have e3_3 := (HG6.out.b 3 rfl).cv 3 (.int .i64 f) rfl; have e3_4 := (HG6.out.b 3 rfl).cv 4 (.bool al) rfl; have e41 := (HG6.out.b 4 rfl).cv 1 (.int .i64 v5t) rfl; clear HG6 HP6 HR6)
        | (at_builtin; refine wa9 _ rfl _ _ 159 rfl 164 _ 6 48 underlying159 info_stp rfl (by decide) rfl HR7.out #[.int .i64 s, .int .i64 kd, .int .i64 a, .int .i64 f, .bool al, .int .i64 v5t] rfl (by first | rfl | simp) rfl (st_one ⟨⟨s, kd, a, f, al⟩, v5t⟩) (by omega) (by omega) (by have := HG7.out.bl.size; first | omega | (simp at this ⊢; omega)) ?_; intro v8 w8 ho8 hg8; obtain ⟨A8, c8, rfl⟩ := oL9 ho8; have HS8 := hid ho8; have HP8 := hid (HP7.out.kept hg8 (ooz HP7.out HR7.out (by decide))); have HG8 := hid ((HG7.out.cut 3).gr hg8 (fun k hk => (HL2'.out k hk).1) (fun x hx => by simp only [List.nil_append, List.cons_append, List.take, List.set, List.mem_cons, List.not_mem_nil, or_false] at hx; rcases hx with rfl | rfl | rfl; exact obz HR7.out (HG7.out.b 0 rfl) (by decide); exact obz HR7.out (HG7.out.b 1 rfl) (by decide); exact obz HR7.out (HG7.out.b 2 rfl) (by decide))); clear ho8 hg8))
      go_roundw
      case rel =>
        refine ⟨k + 1, A6, c6, A8, c8, by omega, by go_num, rfl, hid (HNX.out HE0.out), ?_, ?_, ?_⟩
        · exact HG8
        · unfold Hid
          rw [HPk.out, HVB.out, List.flatMap_append]
          exact HP8.out
        · unfold Hid
          rw [HSk.out, HVB.out, List.flatMap_append]
          exact HS8.out
      case measure => simp [intOf]; omega
    ·
      have t1 : ((k : Int) == (n : Int) - 1) = false := by simp; omega
      unfold Hid at HEk HVk
      rw [if_neg hl] at HEk HVk
      clear hl K2
      have HE0 := hid HEk
      have HVB := hid HVk
      clear HEk HVk
      clear c1_0 f1_0 c1_1 f1_1 c1_2 f1_2 c1_3 f1_3 c1_4 f1_4 c1_5 f1_5
      have c2_0 := (HF102.out.b 2 rfl).cv 0 (.slice A1 k c1) rfl
      have f2_0 := (HF102.out.b 2 rfl).free 0
      have qz := HF102.out.b 4 rfl
      have c4_0 := qz.cv 0 (.int .i64 v1c) rfl
      have c4_1 := qz.cv 1 (.int .i64 v1t) rfl
      have c4_2 := qz.cv 2 (.int .i64 v1s) rfl
      clear qz
      have qz := HF102.out.b 3 rfl
      have c3_0 := qz.cv 0 (.int .i64 s) rfl
      have c3_1 := qz.cv 1 (.int .i64 kd) rfl
      have c3_2 := qz.cv 2 (.int .i64 a) rfl
      have c3_3 := qz.cv 3 (.int .i64 f) rfl
      have c3_4 := qz.cv 4 (.bool al) rfl
      clear qz
      have hq0 := hlt2.out
      have hq2 := HSZ2.out
      have hq1 : ¬ wr.heap.size = w.heap.size + 1 + 1 := by omega
      have hq3 : ¬ W2.heap.size = w.heap.size + 1 + 1 := by omega
      have hq4 : ¬ w.heap.size + 1 + 1 = wr.heap.size := by omega
      have hq5 : ¬ w.heap.size + 1 + 1 = W2.heap.size := by omega
      have NE1 := hid (show ∀ x ∈ ([(w.heap.size, 26, #[.slice As ns cs, .slice Ac nc cc, .slice Ak nk ck, .int .i64 lim, .int .i64 rnd]), (w.heap.size + 1, 121, #[.slice none 0 0, .int .i64 0, .int .i64 0, .int .i64 0, .int .i64 0, .slice none 0 0]), (w.heap.size + 1 + 1, 121, #[.slice A1 k c1, .int .i64 0, .int .i64 0, .int .i64 0, .int .i64 0, .slice none 0 0]), (wr.heap.size, 67, #[.int .i64 s, .int .i64 kd, .int .i64 a, .int .i64 f, .bool al, .slice Aq nq kq]), (W2.heap.size, 41, #[.int .i64 v1c, .int .i64 v1t, .int .i64 v1s])] : List (Nat × TypeId × Array Value)), some x.1 ≠ (Value.slice A1 k c1).ownBlock from (fun x hx => by
            simp only [List.nil_append, List.cons_append, List.mem_cons, List.not_mem_nil, or_false] at hx
            intro he
            have hlx := HL1'.out _ he.symm
            have := HSZ2.out
            rcases hx with rfl | rfl | rfl | rfl | rfl
            · exact obz HO1.out (HF102.out.b 0 rfl) (by decide) he
            · exact obz HO1.out (HF102.out.b 1 rfl) (by decide) he
            · exact obz HO1.out (HF102.out.b 2 rfl) (by decide) he
            · dsimp only at hlx; omega
            · dsimp only at hlx; omega))
      go_wp2_with (first
        | (at_builtin; refine wa9 _ rfl _ _ 119 rfl 41 _ 3 24 underlying119 info_bs rfl (by decide) rfl HO1.out #[.int .i64 v1c, .int .i64 v1t, .int .i64 v1s] rfl (by first | rfl | simp) rfl (bs_one ⟨v1c, v1t, v1s⟩) (by omega) (by omega) (by have := HF102.out.bl.size; first | omega | (simp; omega)) ?_; intro v' w6 ho' hg; obtain ⟨A6, c6, rfl⟩ := oL9 ho'; have HP6 := hid ho'; have HG6 := hid (HF102.out.gr hg (fun k hk => (HL1'.out k hk).1) NE1.out); have HR6 := hid (HO2.out.kept hg (ooz HO2.out HO1.out (by decide))); clear ho' hg; have c20 := (HG6.out.b 2 rfl).cv 0 (.slice A1 k c1) rfl; have f20 := (HG6.out.b 2 rfl).free 0; have HG7 := hid (HG6.out.st 2 rfl 0 (.slice A6 (k + 1) c6)); have HP7 := hid (oS9 HP6.out (HG6.out.b 2 rfl) (by decide) 0 (.slice A6 (k + 1) c6)); have HR7 := hid (oS9 HR6.out (HG6.out.b 2 rfl) (by decide) 0 (.slice A6 (k + 1) c6)); have e3_0 := (HG6.out.b 3 rfl).cv 0 (.int .i64 s) rfl; have e3_1 := (HG6.out.b 3 rfl).cv 1 (.int .i64 kd) rfl; have e3_2 := (HG6.out.b 3 rfl).cv 2 (.int .i64 a) rfl; have e3_3 := (HG6.out.b 3 rfl).cv 3 (.int .i64 f) rfl; have e3_4 := (HG6.out.b 3 rfl).cv 4 (.bool al) rfl; have e41 := (HG6.out.b 4 rfl).cv 1 (.int .i64 v1t) rfl; clear HG6 HP6 HR6)
        | (at_builtin; refine wa9 _ rfl _ _ 159 rfl 164 _ 6 48 underlying159 info_stp rfl (by decide) rfl HR7.out #[.int .i64 s, .int .i64 kd, .int .i64 a, .int .i64 f, .bool al, .int .i64 v1t] rfl (by first | rfl | simp) rfl (st_one ⟨⟨s, kd, a, f, al⟩, v1t⟩) (by omega) (by omega) (by have := HG7.out.bl.size; first | omega | (simp at this ⊢; omega)) ?_; intro v8 w8 ho8 hg8; obtain ⟨A8, c8, rfl⟩ := oL9 ho8; have HS8 := hid ho8; have HP8 := hid (HP7.out.kept hg8 (ooz HP7.out HR7.out (by decide))); have HG8 := hid ((HG7.out.cut 3).gr hg8 (fun k hk => (HL2'.out k hk).1) (fun x hx => by simp only [List.nil_append, List.cons_append, List.take, List.set, List.mem_cons, List.not_mem_nil, or_false] at hx; rcases hx with rfl | rfl | rfl; exact obz HR7.out (HG7.out.b 0 rfl) (by decide); exact obz HR7.out (HG7.out.b 1 rfl) (by decide); exact obz HR7.out (HG7.out.b 2 rfl) (by decide))); clear ho8 hg8))
      go_roundw
      case rel =>
        refine ⟨k + 1, A6, c6, A8, c8, by omega, by go_num, rfl, hid (HNX.out HE0.out), ?_, ?_, ?_⟩
        · exact HG8
        · unfold Hid
          rw [HPk.out, HVB.out, List.flatMap_append]
          exact HP8.out
        · unfold Hid
          rw [HSk.out, HVB.out, List.flatMap_append]
          exact HS8.out
      case measure => simp [intOf]; omega
end Go.Proofs.YtiaabmhjkoohmaaGreat
