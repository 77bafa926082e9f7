/-
  Contracts of the document's answer for tax. Conditions as named.
-/
import Derived.Test.YtlfeppbhicmeoaaTax5
import Derived.Test.YtlfeppbhicmeoaaRef13
namespace Go.Proofs.Ytlfeppbhicmeoaa
set_option linter.unusedVariables false
open Go.RowKit
theorem rfree_c (s k a f : Int) (al : Bool) (n d : Int) (w : World) (ha : 0 ≤ a ∧ a ≤ 999999000) (hp : partB n d = true) :
    Calls Try.prog 56 #[.agg #[.int .i64 s, .int .i64 k, .int .i64 a, .int .i64 f, .bool al], .int .i64 n, .int .i64 d] w fun e w' => e = .returned (.int .i64 (freeI k a n d)) ∧ Below w.heap.size w w' := by
  have hp' := partB_iff.1 hp
  have hm : 0 ≤ a * n ∧ a * n ≤ 999999000 * 1048576 := mul_bd0' ha.1 ha.2 hp'.1 (by omega)
  have hq := part_bd a n d ha.1 ⟨hp'.1, hp'.2.2.1⟩ hp'.2.1
  have ht : (a * n).tdiv d = a * n / d := Int.tdiv_eq_ediv_of_nonneg hm.1
  have hd : 0 < d := by omega
  have HV : Hid (freeI k a n d = if k = 2 then -(a * n / d) else a * n / d) := rfl
  rw [← ht] at hq HV
  obtain ⟨m0, m1⟩ := hm
  obtain ⟨q0, q1⟩ := hq
  obtain ⟨a0, a1⟩ := ha
  have hb0 := below1 w (.cells #[.int .i64 s, .int .i64 k, .int .i64 a, .int .i64 f, .bool al] 40)
  generalize freeI k a n d = v at *
  clear ht hp hp'
  by_cases h2 : k = 2
  · subst h2
    rw [if_pos rfl] at HV
    go_enter Try.func56, Try.ntmps56
    go_wp2
    go_ret
    exact ⟨ret_int HV.out.symm, hb0⟩
  · rw [if_neg h2] at HV
    have u : (k == 2) = false := by simpa using h2
    go_enter Try.func56, Try.ntmps56
    go_wp2
    go_ret
    exact ⟨ret_int HV.out.symm, hb0⟩
--%%
set_option maxRecDepth 100000 in
set_option maxHeartbeats 1600000 in
theorem rtexact_c (sch : List (List Bd)) (As Ac Ak : Option Addr) (ns cs nc cc nk ck : Nat) (lim rnd : Int) (s k a f : Int) (al : Bool) (tx n d : Int) (w : World) (hs : ScSl w As ns sch) (hok : ∀ k, k < ns → bandsErr (sch.getD k []) = 0) (hr : exE sch ⟨s, k, a, f, al⟩ tx n d = 0) :
    Calls Try.prog 23 #[.agg #[.slice As ns cs, .slice Ac nc cc, .slice Ak nk ck, .int .i64 lim, .int .i64 rnd], .agg #[.int .i64 s, .int .i64 k, .int .i64 a, .int .i64 f, .bool al], .int .i64 tx, .int .i64 n, .int .i64 d] w fun e w' => e = .returned (.int .i64 (exV sch ⟨s, k, a, f, al⟩ tx n d)) ∧ Below w.heap.size w w' := by
  have z := (Blk.mk w 26 #[.slice As ns cs, .slice Ac nc cc, .slice Ak nk ck, .int .i64 lim, .int .i64 rnd]).alloc (.cells #[.int .i64 s, .int .i64 k, .int .i64 a, .int .i64 f, .bool al] 40)
  have y := Blk.mk (w.alloc (.cells #[.slice As ns cs, .slice Ac nc cc, .slice Ak nk ck, .int .i64 lim, .int .i64 rnd] 26)) 40 #[.int .i64 s, .int .i64 k, .int .i64 a, .int .i64 f, .bool al]
  rw [World.size_alloc] at y
  have hb0 := bA (below1 w (.cells #[.slice As ns cs, .slice Ac nc cc, .slice Ak nk ck, .int .i64 lim, .int .i64 rnd] 26)) (.cells #[.int .i64 s, .int .i64 k, .int .i64 a, .int .i64 f, .bool al] 40)
  have hR := hr
  unfold exE at hR
  by_cases h1 : fitE sch ⟨s, k, a, f, al⟩ = 0
  case neg =>
    rw [if_pos h1] at hR
    exact absurd hR h1
  rw [if_neg (by simpa using h1)] at hR
  obtain ⟨hc0, hs0, hs1, hf0, hf3⟩ := fit_ok h1
  obtain ⟨hp, hv0, hv1, htx⟩ := charge_ok hR
  have hfb := free_bd ⟨s, k, a, f, al⟩ n d hc0 hp
  have htx' := mr_iff.1 htx
  dsimp only at hc0 hs0 hs1 hf0 hf3 hfb
  have hca := code_a s k a f hc0
  have KF := Lib.hid (rfree_c s k a f al n d · ⟨hca.1, hca.2.1⟩ hp)
  have hp' := partB_iff.1 hp
  obtain ⟨i, rfl⟩ := Int.eq_ofNat_of_zero_le hs0
  rw [Int.toNat_natCast] at hf3
  have hi : i < ns := by have := hs.1; omega
  have hBE := hok i hi
  obtain ⟨gb, go, B, nb, cb, rfl, hlt, c0, hbs⟩ := ScAt.one hs i hi
  have hCV : chargeV ⟨(i : Int), k, a, f, al⟩ tx n d = if k = 4 then 0 else max 0 (tx - freeI k a n d) := rfl
  have HV : Hid (exV sch ⟨(i : Int), k, a, f, al⟩ tx n d = if k = 4 then 0 else if k = 3 then chargeV ⟨(i : Int), k, a, f, al⟩ tx n d * ((sch.getD i []).getD f.toNat bd0).r else progS (chargeV ⟨(i : Int), k, a, f, al⟩ tx n d) (fr (sch.getD i []) n d) (fun k => ((sch.getD i []).getD k bd0).r) (sch.getD i []).length (sch.getD i []).length) := rfl
  generalize exV sch ⟨(i : Int), k, a, f, al⟩ tx n d = ev at *
  generalize chargeV ⟨(i : Int), k, a, f, al⟩ tx n d = cv at *
  generalize freeI k a n d = q at *
  generalize sch.getD i [] = l at *
  have HBS := Lib.hid hbs
  have ii0 : (0 : Int) ≤ (i : Int) := by omega
  have ii1 : (i : Int) < (ns : Int) := by omega
  have ii2 : ((i : Int)).toNat = i := by omega
  have c1 := (hb0.cell (p := ⟨gb, go + i, none⟩) hlt).trans c0
  obtain ⟨p0, p1, p2, p3, p4⟩ := z.all5
  obtain ⟨q0, q1, q2, q3, q4⟩ := y.all5
  clear h1 hR hr hs hok hbs hc0 hs0 hs1 htx hca
  by_cases h4 : k = 4
  · subst h4
    rw [if_pos rfl] at HV
    go_enter Try.func23, Try.ntmps23
    go_wp2_with fail
    go_ret
    exact ⟨ret_int HV.out.symm, hb0⟩
  rw [if_neg h4] at HV hCV
  have u4 : (k == 4) = false := by simpa using h4
  have hnl := HBS.out.1
  have gB := goodB _ hBE
  have h8 := gB.hi
  have GB := Lib.hid gB
  have HPB := Lib.hid (prog_bd cv (fr l n d) (fun k => (l.getD k bd0).r) l.length (fun i hi => (fr_bd gB n d hp i hi).1) gB.r hv1)
  have HFB := Lib.hid (fr_bd gB n d hp)
  have hd0 : 0 < d := by omega
  have hn20 : n ≤ 1048576 := by omega
  obtain ⟨hn0, _, _, _⟩ := hp'
  rcases (by omega : (tx - q < 0 ∧ cv = 0) ∨ (¬ tx - q < 0 ∧ tx = cv + q)) with ⟨hneg, hz⟩ | ⟨hneg, hz⟩
  · by_cases h3 : k = 3
    · subst h3
      rw [if_pos rfl] at HV
      obtain ⟨j, rfl⟩ := Int.eq_ofNat_of_zero_le hf0
      have hj : j < nb := by have := hf3 rfl; omega
      rw [Int.toNat_natCast] at HV
      have hrb := gB.r j (by omega)
      obtain ⟨b2, o2, rfl, hlt2, hat2⟩ := HBS.out.2.2 (by omega)
      obtain ⟨_, d1, _⟩ := hat2 j (by omega)
      have HB1 := Lib.hid d1
      generalize (l.getD j bd0).r = br at *
      have jj0 : (0 : Int) ≤ (j : Int) := by omega
      have jj1 : (j : Int) < (nb : Int) := by omega
      have jj2 : ((j : Int)).toNat = j := by omega
      have hmm := mul_bd0 hv0 hv1 hrb.1 hrb.2 (by decide)
      subst hz
      clear hat2 hf3 hBE h4 hf0 gB hCV d1
      go_enter Try.func23, Try.ntmps23
      go_wp2_with fail
      refine (KF.out _).mono ?_
      rintro e w1 ⟨rfl, hb1⟩
      have r1 := (y.t hb1).cell 1
      have r3 := (y.t hb1).cell 3
      have hb2 := bT hb0 hb1
      have e1 := (hb2.cell (p := ⟨b2, o2 + j * 3 + 1, none⟩) hlt2).trans HB1.out
      go_wp2_with fail
      go_ret
      exact ⟨ret_int (by rw [HV.out]; try simp), hb2⟩
    rw [if_neg h3] at HV
    have u3 : (k == 3) = false := by simpa using h3
    subst hz
    clear hf3 hBE h4 hf0 gB hCV h3
    go_enter Try.func23, Try.ntmps23
    go_wp2_with fail
    refine (KF.out _).mono ?_
    rintro e w1 ⟨rfl, hb1⟩
    have r1 := (y.t hb1).cell 1
    have hb2 := bT hb0 hb1
    go_wp2_with fail
    have hz0 : ∀ kk, kk ≤ l.length → progS 0 (fr l n d) (fun k => (l.getD k bd0).r) l.length kk = 0 := by
      intro kk
      induction kk with
      | zero => intro _; rfl
      | succ kk ih =>
        intro h
        rw [progS, ih (by omega), width_zero 0 (fr l n d) l.length kk (HFB.out kk (by omega)).1]
        simp
    have HZ := Lib.hid (hz0 _ (Nat.le_refl _))
    clear hz0
    go_loopw [13, 14] (fun o t wr => ∃ kk : Nat, kk ≤ nb ∧ t = .int .i64 kk ∧ o = .int .i64 0 ∧ Below w.heap.size w wr) (fun _ t _ => nb - (intOf t).toNat)
    case atStart => exact ⟨0, Nat.zero_le _, rfl, rfl, hb2⟩
    case round =>
      obtain ⟨kk, hk', rfl, rfl, hbl⟩ := hrel
      by_cases hk : kk < nb
      case neg =>
        obtain rfl : kk = nb := by omega
        go_wp2_with fail
        go_ret
        exact ⟨ret_int (by rw [HV.out, HZ.out]), hbl⟩
      obtain ⟨b, off, rfl, hltb, hat⟩ := (HBS.out.below hbl).2.2 (by omega)
      obtain ⟨x0, x1, _⟩ := hat kk (by omega)
      have g0 := GB.out.f kk (by omega)
      have m0 := mul_bd0' g0.1 g0.2 hn0 hn20
      have e0 : fr l n d kk = ((l.getD kk bd0).f * n).tdiv d := (Int.tdiv_eq_ediv_of_nonneg m0.1).symm
      have b0' := HFB.out kk (by omega)
      have i1 : ((kk : Int) + 1).toNat = kk + 1 := by omega
      have wi : IntKind.i64.wrap ((kk : Int) + 1) = (kk : Int) + 1 := by rw [IntKind.wrap_i64]; omega
      rw [e0] at b0'
      clear e0
      by_cases hnx : kk + 1 < nb
      · obtain ⟨d0, _, _⟩ := hat (kk + 1) (by omega)
        have g1 := GB.out.f (kk + 1) (by omega)
        have m1 := mul_bd0' g1.1 g1.2 hn0 hn20
        have e1 : fr l n d (kk + 1) = ((l.getD (kk + 1) bd0).f * n).tdiv d := (Int.tdiv_eq_ediv_of_nonneg m1.1).symm
        have b1 := HFB.out (kk + 1) (by omega)
        rw [e1] at b1
        clear hat e1
        generalize (l.getD (kk + 1) bd0).f = yf at *
        generalize (l.getD kk bd0).f = xf at *
        generalize (l.getD kk bd0).r = xr at *
        go_wp2_with fail
        go_roundw
        case rel => exact ⟨kk + 1, by omega, by go_num, rfl, hbl⟩
        case measure => simp [intOf]; omega
      · clear hat
        generalize (l.getD kk bd0).f = xf at *
        generalize (l.getD kk bd0).r = xr at *
        go_wp2_with fail
        go_roundw
        case rel => exact ⟨kk + 1, by omega, by go_num, rfl, hbl⟩
        case measure => simp [intOf]; omega
  · by_cases h3 : k = 3
    · subst h3
      rw [if_pos rfl] at HV
      obtain ⟨j, rfl⟩ := Int.eq_ofNat_of_zero_le hf0
      have hj : j < nb := by have := hf3 rfl; omega
      rw [Int.toNat_natCast] at HV
      have hrb := gB.r j (by omega)
      obtain ⟨b2, o2, rfl, hlt2, hat2⟩ := HBS.out.2.2 (by omega)
      obtain ⟨_, d1, _⟩ := hat2 j (by omega)
      have HB1 := Lib.hid d1
      generalize (l.getD j bd0).r = br at *
      have jj0 : (0 : Int) ≤ (j : Int) := by omega
      have jj1 : (j : Int) < (nb : Int) := by omega
      have jj2 : ((j : Int)).toNat = j := by omega
      have hmm := mul_bd0 hv0 hv1 hrb.1 hrb.2 (by decide)
      subst hz
      clear hat2 hf3 hBE h4 hf0 gB hCV d1
      go_enter Try.func23, Try.ntmps23
      go_wp2_with fail
      refine (KF.out _).mono ?_
      rintro e w1 ⟨rfl, hb1⟩
      have r1 := (y.t hb1).cell 1
      have r3 := (y.t hb1).cell 3
      have hb2 := bT hb0 hb1
      have e1 := (hb2.cell (p := ⟨b2, o2 + j * 3 + 1, none⟩) hlt2).trans HB1.out
      go_wp2_with fail
      go_ret
      exact ⟨ret_int (by rw [HV.out]; try simp), hb2⟩
    rw [if_neg h3] at HV
    have u3 : (k == 3) = false := by simpa using h3
    subst hz
    clear hf3 hBE h4 hf0 gB hCV h3
    go_enter Try.func23, Try.ntmps23
    go_wp2_with fail
    refine (KF.out _).mono ?_
    rintro e w1 ⟨rfl, hb1⟩
    have r1 := (y.t hb1).cell 1
    have hb2 := bT hb0 hb1
    go_wp2_with fail
    go_loopw [13, 14] (fun o t wr => ∃ kk : Nat, kk ≤ nb ∧ t = .int .i64 kk ∧ o = .int .i64 (progS cv (fr l n d) (fun k => (l.getD k bd0).r) l.length kk) ∧ Below w.heap.size w wr) (fun _ t _ => nb - (intOf t).toNat)
    case atStart => exact ⟨0, Nat.zero_le _, rfl, rfl, hb2⟩
    case round =>
      obtain ⟨kk, hk', rfl, rfl, hbl⟩ := hrel
      by_cases hk : kk < nb
      case neg =>
        obtain rfl : kk = nb := by omega
        go_wp2_with fail
        go_ret
        exact ⟨ret_int (by rw [HV.out, ← hnl]), hbl⟩
      obtain ⟨b, off, rfl, hltb, hat⟩ := (HBS.out.below hbl).2.2 (by omega)
      obtain ⟨x0, x1, _⟩ := hat kk (by omega)
      have g0 := GB.out.f kk (by omega)
      have m0 := mul_bd0' g0.1 g0.2 hn0 hn20
      have e0 : fr l n d kk = ((l.getD kk bd0).f * n).tdiv d := (Int.tdiv_eq_ediv_of_nonneg m0.1).symm
      have b0' := HFB.out kk (by omega)
      have i1 : ((kk : Int) + 1).toNat = kk + 1 := by omega
      have wi : IntKind.i64.wrap ((kk : Int) + 1) = (kk : Int) + 1 := by rw [IntKind.wrap_i64]; omega
      rw [e0] at b0'
      have hrb := GB.out.r kk (by omega)
      have hpb := HPB.out kk (by omega)
      have hpp : progS cv (fr l n d) (fun k => (l.getD k bd0).r) l.length (kk + 1) = progS cv (fr l n d) (fun k => (l.getD k bd0).r) l.length kk + widthI cv (fr l n d) l.length kk * (l.getD kk bd0).r := rfl
      have hwb := width_bd cv (fr l n d) l.length kk (by rw [e0]; exact b0'.1) hv1
      have hk7 : (kk : Int) ≤ 7 := by omega
      obtain ⟨wd, hwd⟩ : ∃ wd, wd = widthI cv (fr l n d) l.length kk := ⟨_, rfl⟩
      rw [← hwd] at hpp hwb
      have hm1 := mul_bd0 hwb.1 hwb.2 hrb.1 hrb.2 (by decide)
      unfold widthI pos at hwd
      rw [e0] at hwd
      have HPP : Hid (progS cv (fr l n d) (fun k => (l.getD k bd0).r) l.length kk + wd * (l.getD kk bd0).r = progS cv (fr l n d) (fun k => (l.getD k bd0).r) l.length (kk + 1)) := hpp.symm
      clear hpp
      generalize progS cv (fr l n d) (fun k => (l.getD k bd0).r) l.length kk = sm at *
      by_cases hnx : kk + 1 < nb
      · obtain ⟨d0, _, _⟩ := hat (kk + 1) (by omega)
        have g1 := GB.out.f (kk + 1) (by omega)
        have m1 := mul_bd0' g1.1 g1.2 hn0 hn20
        have e1 : fr l n d (kk + 1) = ((l.getD (kk + 1) bd0).f * n).tdiv d := (Int.tdiv_eq_ediv_of_nonneg m1.1).symm
        have b1 := HFB.out (kk + 1) (by omega)
        rw [if_pos (by omega), e1] at hwd
        rw [e1] at b1
        clear hat e1 e0
        generalize (l.getD (kk + 1) bd0).f = yf at *
        generalize (l.getD kk bd0).f = xf at *
        generalize (l.getD kk bd0).r = xr at *
        by_cases h2 : (yf * n).tdiv d < cv
        · by_cases h3 : (xf * n).tdiv d < (yf * n).tdiv d
          · obtain rfl : wd = (yf * n).tdiv d - (xf * n).tdiv d := by omega
            clear hwd
            go_wp2_with fail
            go_roundw
            case rel => exact ⟨kk + 1, by omega, by go_num, by rw [← HPP.out], hbl⟩
            case measure => simp [intOf]; omega
          · obtain rfl : wd = 0 := by omega
            clear hwd
            go_wp2_with fail
            go_roundw
            case rel => exact ⟨kk + 1, by omega, by go_num, by rw [← HPP.out, Int.zero_mul, Int.add_zero], hbl⟩
            case measure => simp [intOf]; omega
        · by_cases h3 : (xf * n).tdiv d < cv
          · obtain rfl : wd = cv - (xf * n).tdiv d := by omega
            clear hwd
            go_wp2_with fail
            go_roundw
            case rel => exact ⟨kk + 1, by omega, by go_num, by rw [← HPP.out], hbl⟩
            case measure => simp [intOf]; omega
          · obtain rfl : wd = 0 := by omega
            clear hwd
            go_wp2_with fail
            go_roundw
            case rel => exact ⟨kk + 1, by omega, by go_num, by rw [← HPP.out, Int.zero_mul, Int.add_zero], hbl⟩
            case measure => simp [intOf]; omega
      · rw [if_neg (by omega)] at hwd
        clear hat e0
        generalize (l.getD kk bd0).f = xf at *
        generalize (l.getD kk bd0).r = xr at *
        by_cases h3 : (xf * n).tdiv d < cv
        · obtain rfl : wd = cv - (xf * n).tdiv d := by omega
          clear hwd
          go_wp2_with fail
          go_roundw
          case rel => exact ⟨kk + 1, by omega, by go_num, by rw [← HPP.out], hbl⟩
          case measure => simp [intOf]; omega
        · obtain rfl : wd = 0 := by omega
          clear hwd
          go_wp2_with fail
          go_roundw
          case rel => exact ⟨kk + 1, by omega, by go_num, by rw [← HPP.out, Int.zero_mul, Int.add_zero], hbl⟩
          case measure => simp [intOf]; omega
--%%
end Go.Proofs.Ytlfeppbhicmeoaa
