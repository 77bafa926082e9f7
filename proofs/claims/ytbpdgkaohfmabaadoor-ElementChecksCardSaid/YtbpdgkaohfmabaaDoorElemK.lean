/-
  Contracts of element.Check and CheckAll. Conditions as named.
-/
import Derived.Test.YtbpdgkaohfmabaaDoorKind
import Derived.Test.YtbpdgkaohfmabaaDoorElem
namespace Go.Proofs.YtbpdgkaohfmabaaDoor
set_option linter.unusedVariables false
open Go.RowKit
/-- why an element may not be with a table -/
def chkE (kds : List Kd) (z : El) : Int := if kdE kds z.k ≠ 0 then kdE kds z.k else elE z.a z.u
/-- why elements may not be in a period -/
def chkA (kds : List Kd) (L : List El) (n : Nat) : Int := if 32 < n then 2 else firstNZ (fun i => chkE kds (L.getD i el0)) n
--%%
set_option maxRecDepth 100000 in
set_option maxHeartbeats 3200000 in
theorem echeck_c (kds : List Kd) (As Ac Ak : Option Addr) (ns cs nc cc nk ck : Nat) (lim rnd : Int) (k : ByteArray) (a u : Int) (w : World) (hs : KdSl w Ak nk kds) (re : Int) (he : Hid (re = chkE kds ⟨k, a, u⟩)) :
    Calls Tryd.prog 19 #[.agg #[.slice As ns cs, .slice Ac nc cc, .slice Ak nk ck, .int .i64 lim, .int .i64 rnd], .agg #[.string k, .int .i64 a, .int .i64 u]] w fun e w' => e = .returned (.int .i64 re) ∧ Below w.heap.size w w' := by
  have hb0 := bA (below1 w (.cells #[.slice As ns cs, .slice Ac nc cc, .slice Ak nk ck, .int .i64 lim, .int .i64 rnd] 51)) (.cells #[.string k, .int .i64 a, .int .i64 u] 23)
  have yt := (Blk.mk w 51 #[.slice As ns cs, .slice Ac nc cc, .slice Ak nk ck, .int .i64 lim, .int .i64 rnd]).alloc (.cells #[.string k, .int .i64 a, .int .i64 u] 23)
  have y0 := Blk.mk (w.alloc (.cells #[.slice As ns cs, .slice Ac nc cc, .slice Ak nk ck, .int .i64 lim, .int .i64 rnd] 51)) 23 #[.string k, .int .i64 a, .int .i64 u]
  have y : Blk ((w.alloc (.cells #[.slice As ns cs, .slice Ac nc cc, .slice Ak nk ck, .int .i64 lim, .int .i64 rnd] 51)).alloc (.cells #[.string k, .int .i64 a, .int .i64 u] 23)) (w.heap.size + 1) 23 #[.string k, .int .i64 a, .int .i64 u] := by simpa using y0
  have HS := Lib.hid (KdSl.below hs hb0)
  have t0 := yt.cell 0
  have t1 := yt.cell 1
  have t2 := yt.cell 2
  have t3 := yt.cell 3
  have t4 := yt.cell 4
  have p0 := y.cell 0
  have HE : Hid (re = if kdE kds k ≠ 0 then kdE kds k else elE a u) := he
  have KK := Lib.hid (fun W h => kind_c kds As Ac Ak ns cs nc cc nk ck lim rnd k W h _ _ (Lib.hid rfl) (Lib.hid rfl))
  have KV := Lib.hid (fun W => evalue_c k a u W _ _ rfl rfl)
  have HV : Hid (elE a u = if mrB a = false then 10 else if u < 0 ∨ 100000 < u then 1 else if mrB (roundI (a * u) 100 4) = true then 0 else 10) := rfl
  generalize kdE kds k = ke at *
  generalize kdX kds k = kx at *
  obtain ⟨xn, xc, xt, xs⟩ := kx
  dsimp only at KK
  clear hs he yt y0
  by_cases h0 : ke = 0
  case neg =>
    have e1 : re = ke := HE.out.trans (if_pos h0)
    have v1 : (ke != 0) = true := by simpa using h0
    subst e1
    clear h0 HE HV
    go_enter Tryd.func19, Tryd.ntmps19
    go_wp2_with fail; (refine (KK.out _ (HS.out)).mono ?_); (rintro e w1 ⟨rfl, hb1⟩); have hB1 := bA (bT hb0 hb1) (.cells #[.string xn, .int .i64 xc, .int .i64 xt, .int .i64 xs] 54); have y1 := (y.t hb1).alloc (.cells #[.string xn, .int .i64 xc, .int .i64 xt, .int .i64 xs] 54); have q0 := y1.cell 0; have q1 := y1.cell 1; have q2 := y1.cell 2; clear t0 t1 t2 t3 t4 p0
    go_wp2_with fail
    go_ret
    exact ⟨rfl, hB1⟩
  subst h0
  have HE2 : Hid (re = elE a u) := HE.out.trans (if_neg (by simp))
  generalize elE a u = ee at *
  generalize elV a u = ev at *
  obtain rfl : re = ee := HE2.out
  clear HE HE2
  by_cases h1 : mrB a = true
  case neg =>
    have h1' : mrB a = false := by simpa using h1
    have e1 : re = 10 := HV.out.trans (if_pos h1')
    subst e1
    clear h1 HV KV
    go_enter Tryd.func19, Tryd.ntmps19
    go_wp2_with fail; (refine (KK.out _ (HS.out)).mono ?_); (rintro e w1 ⟨rfl, hb1⟩); have hB1 := bA (bT hb0 hb1) (.cells #[.string xn, .int .i64 xc, .int .i64 xt, .int .i64 xs] 54); have y1 := (y.t hb1).alloc (.cells #[.string xn, .int .i64 xc, .int .i64 xt, .int .i64 xs] 54); have q0 := y1.cell 0; have q1 := y1.cell 1; have q2 := y1.cell 2; clear t0 t1 t2 t3 t4 p0
    have hB2 := bA hB1 (.cells #[.int .i64 a] 2)
    go_wp2_with fail
    refine (right1 _ _ _ a _ (by simp [cell_alloc])).mono ?_
    rintro e w2 ⟨rfl, rfl⟩
    go_wp2_with fail
    go_ret
    exact ⟨rfl, hB2⟩
  by_cases h2 : u < 0
  · have e1 : re = 1 := by rw [HV.out, if_neg (by simp [h1]), if_pos (Or.inl h2)]
    have v2 : decide (u < 0) = true := by simpa using h2
    subst e1
    clear h2 HV KV
    go_enter Tryd.func19, Tryd.ntmps19
    go_wp2_with fail; (refine (KK.out _ (HS.out)).mono ?_); (rintro e w1 ⟨rfl, hb1⟩); have hB1 := bA (bT hb0 hb1) (.cells #[.string xn, .int .i64 xc, .int .i64 xt, .int .i64 xs] 54); have y1 := (y.t hb1).alloc (.cells #[.string xn, .int .i64 xc, .int .i64 xt, .int .i64 xs] 54); have q0 := y1.cell 0; have q1 := y1.cell 1; have q2 := y1.cell 2; clear t0 t1 t2 t3 t4 p0
    have hB2 := bA hB1 (.cells #[.int .i64 a] 2)
    have y2 := y1.alloc (.cells #[.int .i64 a] 2)
    go_wp2_with fail
    refine (right1 _ _ _ a _ (by simp [cell_alloc])).mono ?_
    rintro e w2 ⟨rfl, rfl⟩
    clear q0 q1 q2
    have q2 := y2.cell 2
    go_wp2_with fail
    go_ret
    exact ⟨rfl, hB2⟩
  have v2 : decide (u < 0) = false := by simpa using h2
  by_cases h3 : 100000 < u
  · have e1 : re = 1 := by rw [HV.out, if_neg (by simp [h1]), if_pos (Or.inr h3)]
    have v3 : decide (100000 < u) = true := by simpa using h3
    subst e1
    clear h2 h3 HV KV
    go_enter Tryd.func19, Tryd.ntmps19
    go_wp2_with fail; (refine (KK.out _ (HS.out)).mono ?_); (rintro e w1 ⟨rfl, hb1⟩); have hB1 := bA (bT hb0 hb1) (.cells #[.string xn, .int .i64 xc, .int .i64 xt, .int .i64 xs] 54); have y1 := (y.t hb1).alloc (.cells #[.string xn, .int .i64 xc, .int .i64 xt, .int .i64 xs] 54); have q0 := y1.cell 0; have q1 := y1.cell 1; have q2 := y1.cell 2; clear t0 t1 t2 t3 t4 p0
    have hB2 := bA hB1 (.cells #[.int .i64 a] 2)
    have y2 := y1.alloc (.cells #[.int .i64 a] 2)
    go_wp2_with fail
    refine (right1 _ _ _ a _ (by simp [cell_alloc])).mono ?_
    rintro e w2 ⟨rfl, rfl⟩
    clear q0 q1 q2
    have q2 := y2.cell 2
    go_wp2_with fail
    go_ret
    exact ⟨rfl, hB2⟩
  have v3 : decide (100000 < u) = false := by simpa using h3
  clear h2 h3 HV
  go_enter Tryd.func19, Tryd.ntmps19
  go_wp2_with fail; (refine (KK.out _ (HS.out)).mono ?_); (rintro e w1 ⟨rfl, hb1⟩); have hB1 := bA (bT hb0 hb1) (.cells #[.string xn, .int .i64 xc, .int .i64 xt, .int .i64 xs] 54); have y1 := (y.t hb1).alloc (.cells #[.string xn, .int .i64 xc, .int .i64 xt, .int .i64 xs] 54); have q0 := y1.cell 0; have q1 := y1.cell 1; have q2 := y1.cell 2; clear t0 t1 t2 t3 t4 p0
  have hB2 := bA hB1 (.cells #[.int .i64 a] 2)
  have y2 := y1.alloc (.cells #[.int .i64 a] 2)
  go_wp2_with fail
  refine (right1 _ _ _ a _ (by simp [cell_alloc])).mono ?_
  rintro e w2 ⟨rfl, rfl⟩
  clear q0 q1 q2
  have q0 := y2.cell 0
  have q1 := y2.cell 1
  have q2 := y2.cell 2
  go_wp2_with fail
  refine (KV.out _).mono ?_
  rintro e w3 ⟨rfl, hb3⟩
  go_wp2_with fail
  go_ret
  exact ⟨rfl, bT hB2 hb3⟩
--%%
set_option maxRecDepth 100000 in
set_option maxHeartbeats 1600000 in
theorem eall_c (kds : List Kd) (As Ac Ak : Option Addr) (ns cs nc cc nk ck : Nat) (lim rnd : Int) (A : Option Addr) (n c : Nat) (L : List El) (w : World) (hs : KdSl w Ak nk kds) (hl : ElSl w A n L) (re : Int) (he : Hid (re = chkA kds L n)) :
    Calls Tryd.prog 21 #[.agg #[.slice As ns cs, .slice Ac nc cc, .slice Ak nk ck, .int .i64 lim, .int .i64 rnd], .slice A n c] w fun e w' => e = .returned (.int .i64 re) ∧ Below w.heap.size w w' := by
  have hb0 := below1 w (.cells #[.slice As ns cs, .slice Ac nc cc, .slice Ak nk ck, .int .i64 lim, .int .i64 rnd] 51)
  have y := Blk.mk w 51 #[.slice As ns cs, .slice Ac nc cc, .slice Ak nk ck, .int .i64 lim, .int .i64 rnd]
  have HS := Lib.hid (KdSl.below hs hb0)
  have HL := Lib.hid (RowSl.below hl hb0)
  have hn9 := hl.2.1
  by_cases h32 : 32 < n
  · have e1 : re = 2 := he.out.trans (if_pos h32)
    have v1 : decide ((32 : Int) < (n : Int)) = true := by simp; omega
    subst e1
    clear he hs hl
    go_enter Tryd.func21, Tryd.ntmps21
    go_wp2_with fail
    go_ret
    exact ⟨rfl, hb0⟩
  have v1 : decide ((32 : Int) < (n : Int)) = false := by simp; omega
  have HE : Hid (re = firstNZ (fun i => chkE kds (L.getD i el0)) n) := he.out.trans (if_neg h32)
  clear he hs hl
  go_enter Tryd.func21, Tryd.ntmps21
  go_wp2_with fail
  go_loopw [13] (fun i wr => ∃ k : Nat, k ≤ n ∧ i = .int .i64 k ∧ Hid (firstNZ (fun i => chkE kds (L.getD i el0)) k = 0) ∧ Below (w.alloc (.cells #[.slice As ns cs, .slice Ac nc cc, .slice Ak nk ck, .int .i64 lim, .int .i64 rnd] 51)).heap.size (w.alloc (.cells #[.slice As ns cs, .slice Ac nc cc, .slice Ak nk ck, .int .i64 lim, .int .i64 rnd] 51)) wr) (fun i _ => n - (intOf i).toNat)
  case atStart => exact ⟨0, Nat.zero_le _, rfl, rfl, b0 _⟩
  case round =>
    obtain ⟨k, hk', rfl, HA, hbl⟩ := hrel
    have hBl := bT hb0 hbl
    by_cases hk : k < n
    case neg =>
      obtain rfl : k = n := by omega
      obtain rfl : re = 0 := HE.out.trans HA.out
      go_wp2_with fail
      go_ret
      exact ⟨rfl, hBl⟩
    obtain ⟨b, off, rfl, hlt, hat⟩ := (HL.out.below hbl).2.2 (by omega)
    have hc := hat k hk
    have HN : Hid (chkE kds (L.getD k el0) ≠ 0 → re = chkE kds (L.getD k el0)) := fun h => HE.out.trans (firstNZ_stop _ k n HA.out h hk)
    have HY : Hid (chkE kds (L.getD k el0) = 0 → firstNZ (fun i => chkE kds (L.getD i el0)) (k + 1) = 0) := fun h => firstNZ_step _ k HA.out h
    have KC := Lib.hid (fun W h => echeck_c kds As Ac Ak ns cs nc cc nk ck lim rnd (L.getD k el0).k (L.getD k el0).a (L.getD k el0).u W h _ (Lib.hid rfl))
    have hcz : chkE kds ⟨(L.getD k el0).k, (L.getD k el0).a, (L.getD k el0).u⟩ = chkE kds (L.getD k el0) := rfl
    rw [hcz] at KC
    clear hcz
    generalize chkE kds (L.getD k el0) = ce at *
    generalize L.getD k el0 = zz at *
    obtain ⟨zk, za, zu⟩ := zz
    dsimp only at KC
    obtain ⟨c0, c1, c2⟩ : wr.cell? ⟨b, off + k * 3, none⟩ = some (.string zk) ∧ wr.cell? ⟨b, off + k * 3 + 1, none⟩ = some (.int .i64 za) ∧ wr.cell? ⟨b, off + k * 3 + 2, none⟩ = some (.int .i64 zu) := ⟨hc 0 _ rfl, hc 1 _ rfl, hc 2 _ rfl⟩
    have hbx := bA hbl (.cells #[.string zk, .int .i64 za, .int .i64 zu] 23)
    have yt := (y.t hbl).alloc (.cells #[.string zk, .int .i64 za, .int .i64 zu] 23)
    have t0 := yt.cell 0
    have t1 := yt.cell 1
    have t2 := yt.cell 2
    have t3 := yt.cell 3
    have t4 := yt.cell 4
    have HS2 := Lib.hid (KdSl.below HS.out hbx)
    clear hc hat
    by_cases h : ce = 0
    · have HY2 := Lib.hid (HY.out h)
      subst h
      clear HN HY
      go_wp2_with fail
      refine (KC.out _ HS2.out).mono ?_
      rintro e w2 ⟨rfl, hb2⟩
      go_wp2_with fail
      go_roundw
      case rel => exact ⟨k + 1, by omega, by go_num, HY2.out, bT hbx hb2⟩
      case measure => simp [intOf]; omega
    · obtain rfl : re = ce := HN.out h
      have v2 : (re != 0) = true := by simpa using h
      clear HN HY h HE
      go_wp2_with fail
      refine (KC.out _ HS2.out).mono ?_
      rintro e w2 ⟨rfl, hb2⟩
      go_wp2_with fail
      go_ret
      exact ⟨rfl, bT (bT hb0 hbx) hb2⟩
--%%
end Go.Proofs.YtbpdgkaohfmabaaDoor
