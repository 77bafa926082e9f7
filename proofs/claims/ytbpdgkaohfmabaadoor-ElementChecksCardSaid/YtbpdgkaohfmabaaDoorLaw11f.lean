/-
  Layer 11's law ElementChecks: its walk. Conditions as named.
-/
import Derived.Test.YtbpdgkaohfmabaaDoorLaw11
import Derived.Test.YtbpdgkaohfmabaaDoorElemK
namespace Go.Proofs.YtbpdgkaohfmabaaDoor
set_option linter.unusedVariables false
open Go.RowKit
/-- what the law's loop has noted -/
def wantV (kds : List Kd) (L : List El) (n k : Nat) : Int := if 32 < n then 2 else firstNZ (fun i => chkE kds (L.getD i el0)) k
theorem wantV_step (kds : List Kd) (L : List El) (n k : Nat) : wantV kds L n (k + 1) = if wantV kds L n k = 0 then chkE kds (L.getD k el0) else wantV kds L n k := by
  unfold wantV
  by_cases h : 32 < n
  · simp [h]
  · rw [if_neg h, if_neg h]
    by_cases h2 : firstNZ (fun i => chkE kds (L.getD i el0)) k = 0
    · rw [if_pos h2]
      by_cases h3 : chkE kds (L.getD k el0) = 0
      · rw [firstNZ_step _ k h2 h3, h3]
      · exact firstNZ_stop _ k (k + 1) h2 h3 (by omega)
    · rw [if_neg h2]
      show (if firstNZ (fun i => chkE kds (L.getD i el0)) k ≠ 0 then firstNZ (fun i => chkE kds (L.getD i el0)) k else _) = _
      rw [if_pos h2]
--%%
set_option maxRecDepth 100000 in
set_option maxHeartbeats 6400000 in
theorem elementChecks_walk (kds : List Kd) (As Ac Ak : Option Addr) (ns cs nc cc nk ck : Nat) (lim rnd : Int) (A : Option Addr) (n c : Nat) (L : List El) (w : World) (hs : KdSl w Ak nk kds) (hl : ElSl w A n L) (htab : Tab w) :
    Calls Tryd.prog 7 #[.agg #[.slice As ns cs, .slice Ac nc cc, .slice Ak nk ck, .int .i64 lim, .int .i64 rnd], .slice A n c] w fun e w' => e = .returned (.bool true) ∧ Below w.heap.size w w' := by
  have hb0 := below1 w (.cells #[.slice As ns cs, .slice Ac nc cc, .slice Ak nk ck, .int .i64 lim, .int .i64 rnd] 51)
  have y := Blk.mk w 51 #[.slice As ns cs, .slice Ac nc cc, .slice Ak nk ck, .int .i64 lim, .int .i64 rnd]
  have HT := Lib.hid (htab.t hb0)
  have HS := Lib.hid (KdSl.below hs hb0)
  have HL := Lib.hid (RowSl.below hl hb0)
  have hn9 := hl.2.1
  have hk9 := hs.2.1
  clear htab hl hs
  by_cases hn60 : 60 < n
  · have v1 : decide ((60 : Int) < (n : Int)) = true := by simp; omega
    go_enter Tryd.func7, Tryd.ntmps7
    go_wp2_with fail
    refine (worths_c _ HT.out).mono ?_
    rintro e w1 ⟨rfl, hb1⟩
    go_wp2_with fail
    go_ret
    exact ⟨rfl, bT hb0 hb1⟩
  have v1 : decide ((60 : Int) < (n : Int)) = false := by simp; omega
  by_cases hk60 : 60 < nk
  · have v2 : decide ((60 : Int) < (nk : Int)) = true := by simp; omega
    go_enter Tryd.func7, Tryd.ntmps7
    go_wp2_with fail
    refine (worths_c _ HT.out).mono ?_
    rintro e w1 ⟨rfl, hb1⟩
    have q2 := (y.t hb1).cell 2
    go_wp2_with fail
    go_ret
    exact ⟨rfl, bT hb0 hb1⟩
  have v2 : decide ((60 : Int) < (nk : Int)) = false := by simp; omega
  have KA := Lib.hid (fun W h1 h2 => eall_c kds As Ac Ak ns cs nc cc nk ck lim rnd A n c L W h1 h2 _ (Lib.hid rfl))
  have HF : Hid (chkA kds L n = wantV kds L n n) := rfl
  have H0 : Hid (wantV kds L n 0 = if 32 < n then 2 else 0) := rfl
  have HW := Lib.hid (wantV_step kds L n)
  obtain ⟨b32, hb32⟩ : ∃ b : Bool, decide ((32 : Int) < (n : Int)) = b := ⟨_, rfl⟩
  clear hn60 hk60
  cases b32
  all_goals
    have HI : Hid ((if 32 < n then (2 : Int) else 0) = if decide ((32 : Int) < (n : Int)) = true then 2 else 0) := by
      unfold Hid
      by_cases h : 32 < n
      · rw [if_pos h, if_pos (by simp; omega)]
      · rw [if_neg h, if_neg (by simp; omega)]
    rw [hb32] at HI
    simp only [Bool.false_eq_true, if_false, if_true] at HI
    have H1 := Lib.hid (H0.out.trans HI.out)
    clear H0 HI
    go_enter Tryd.func7, Tryd.ntmps7
    go_wp2_with fail
    refine (worths_c _ HT.out).mono ?_
    rintro e w1 ⟨rfl, hb1⟩
    have y1 := y.t hb1
    have q2 := y1.cell 2
    have hB1 := bT hb0 hb1
    have HS1 := Lib.hid (KdSl.below HS.out hb1)
    have HL1 := Lib.hid (RowSl.below HL.out hb1)
    go_wp2_with fail
    clear q2
    go_loopw [5, 29] (fun wv i wr => ∃ k : Nat, k ≤ n ∧ i = .int .i64 k ∧ wv = .int .i64 (wantV kds L n k) ∧ Below w1.heap.size w1 wr) (fun _ i _ => n - (intOf i).toNat)
    case atStart => exact ⟨0, Nat.zero_le _, rfl, by rw [H1.out], b0 _⟩
    case round =>
      obtain ⟨k, hk', rfl, rfl, hbl⟩ := hrel
      have hBl := bT hB1 hbl
      by_cases hk : k < n
      case neg =>
        obtain rfl : k = n := by omega
        rw [← HF.out]
        have y2 := y1.t hbl
        have q0 := y2.cell 0
        have q1 := y2.cell 1
        have q2 := y2.cell 2
        have q3 := y2.cell 3
        have q4 := y2.cell 4
        generalize chkA kds L k = ca at *
        go_wp2_with fail
        refine (KA.out _ (HS1.out.below hbl) (HL1.out.below hbl)).mono ?_
        rintro e w2 ⟨rfl, hb2⟩
        go_wp2_with fail
        go_ret
        exact ⟨ret_bool (by simp), bT hBl hb2⟩
      obtain ⟨b, off, rfl, hlt, hat⟩ := (HL1.out.below hbl).2.2 (by omega)
      have hc := hat k hk
      have HWK := Lib.hid (HW.out k)
      have KC := Lib.hid (fun W h => echeck_c kds As Ac Ak ns cs nc cc nk ck lim rnd (L.getD k el0).k (L.getD k el0).a (L.getD k el0).u W h _ (Lib.hid rfl))
      have KV := Lib.hid (fun W => evalue_c (L.getD k el0).k (L.getD k el0).a (L.getD k el0).u W _ _ rfl rfl)
      have KK := Lib.hid (fun W h => kind_c kds As Ac Ak ns cs nc cc nk ck lim rnd (L.getD k el0).k W h _ _ (Lib.hid rfl) (Lib.hid rfl))
      have hcz : chkE kds ⟨(L.getD k el0).k, (L.getD k el0).a, (L.getD k el0).u⟩ = chkE kds (L.getD k el0) := rfl
      rw [hcz] at KC
      have HCE : Hid (chkE kds (L.getD k el0) = if kdE kds (L.getD k el0).k ≠ 0 then kdE kds (L.getD k el0).k else elE (L.getD k el0).a (L.getD k el0).u) := rfl
      clear hcz
      generalize chkE kds (L.getD k el0) = ce at *
      generalize L.getD k el0 = zz at *
      obtain ⟨zk, za, zu⟩ := zz
      dsimp only at KC KV KK HCE
      obtain ⟨c0, c1, c2⟩ : wr.cell? ⟨b, off + k * 3, none⟩ = some (.string zk) ∧ wr.cell? ⟨b, off + k * 3 + 1, none⟩ = some (.int .i64 za) ∧ wr.cell? ⟨b, off + k * 3 + 2, none⟩ = some (.int .i64 zu) := ⟨hc 0 _ rfl, hc 1 _ rfl, hc 2 _ rfl⟩
      have hbx := bA hbl (.cells #[.string zk, .int .i64 za, .int .i64 zu] 23)
      have yt := (y1.t hbl).alloc (.cells #[.string zk, .int .i64 za, .int .i64 zu] 23)
      have x1 := Blk.mk wr 23 #[.string zk, .int .i64 za, .int .i64 zu]
      obtain ⟨⟨x10, x11, x12⟩, f0, f1, f2⟩ := x1.a3f
      have t0 := yt.cell 0
      have t1 := yt.cell 1
      have t2 := yt.cell 2
      have t3 := yt.cell 3
      have t4 := yt.cell 4
      have HS2 := Lib.hid (KdSl.below HS1.out hbx)
      generalize kdE kds zk = ke at *
      generalize kdX kds zk = kx at *
      generalize elE za zu = ee at *
      generalize elV za zu = ev at *
      generalize wantV kds L n k = wv at *
      obtain ⟨xn, xc, xt, xs⟩ := kx
      dsimp only at KK
      clear hc hat f0 f1 f2
      go_wp2_with fail
      refine (KC.out _ HS2.out).mono ?_
      rintro e w2 ⟨rfl, hb2⟩
      have hB2 := bT hbx hb2
      have yt2 := yt.t hb2
      clear t0 t1 t2 t3 t4 x10 x11 x12
      obtain ⟨⟨x10, x11, x12⟩, f0, f1, f2⟩ := (x1.t hb2).a3f
      go_wp2_with fail
      refine (KV.out _).mono ?_
      rintro e w3 ⟨rfl, hb3⟩
      have hB3 := bT hB2 hb3
      have yt3 := yt2.t hb3
      clear x10 x11 x12 f0 f1 f2
      obtain ⟨⟨x10, x11, x12⟩, f0, f1, f2⟩ := ((x1.t hb2).t hb3).a3f
      have t0 := yt3.cell 0
      have t1 := yt3.cell 1
      have t2 := yt3.cell 2
      have t3 := yt3.cell 3
      have t4 := yt3.cell 4
      have HS3 := Lib.hid (HS1.out.below hB3)
      go_wp2_with fail
      refine (KK.out _ HS3.out).mono ?_
      rintro e w4 ⟨rfl, hb4⟩
      have hB4 := bA (bT hB3 hb4) (.cells #[.string xn, .int .i64 xc, .int .i64 xt, .int .i64 xs] 54)
      clear x10 x11 x12 f0 f1 f2 t0 t1 t2 t3 t4
      have vcc : (ce != ce) = false := by simp
      by_cases h1 : ke = 0
      · have e1 : ce = ee := HCE.out.trans (if_neg (by simp [h1]))
        subst h1
        subst e1
        clear HCE
        by_cases h2 : wv = 0
        · have HW2 : Hid (wantV kds L n (k + 1) = ce) := HWK.out.trans (if_pos h2)
          subst h2
          go_wp2_with fail
          go_roundw
          case rel => exact ⟨k + 1, by omega, by go_num, by rw [HW2.out], hB4⟩
          case measure => simp [intOf]; omega
        · have HW2 : Hid (wantV kds L n (k + 1) = wv) := HWK.out.trans (if_neg h2)
          have v3 : (wv == 0) = false := by simpa using h2
          clear h2
          go_wp2_with fail
          go_roundw
          case rel => exact ⟨k + 1, by omega, by go_num, by rw [HW2.out], hB4⟩
          case measure => simp [intOf]; omega
      · have e1 : ce = ke := HCE.out.trans (if_pos h1)
        have v4 : (ke != 0) = true := by simpa using h1
        subst e1
        clear HCE h1
        by_cases h2 : wv = 0
        · have HW2 : Hid (wantV kds L n (k + 1) = ce) := HWK.out.trans (if_pos h2)
          subst h2
          go_wp2_with fail
          go_roundw
          case rel => exact ⟨k + 1, by omega, by go_num, by rw [HW2.out], hB4⟩
          case measure => simp [intOf]; omega
        · have HW2 : Hid (wantV kds L n (k + 1) = wv) := HWK.out.trans (if_neg h2)
          have v3 : (wv == 0) = false := by simpa using h2
          clear h2
          go_wp2_with fail
          go_roundw
          case rel => exact ⟨k + 1, by omega, by go_num, by rw [HW2.out], hB4⟩
          case measure => simp [intOf]; omega
--%%
end Go.Proofs.YtbpdgkaohfmabaaDoor
