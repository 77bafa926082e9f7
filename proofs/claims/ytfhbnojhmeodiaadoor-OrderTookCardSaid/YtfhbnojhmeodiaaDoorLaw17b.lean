/-
  Layer 17's laws: are orders there, each once, in their order? Conditions as named.
-/
import Derived.Test.YtfhbnojhmeodiaaDoorLaw17w
import Derived.Test.YtfhbnojhmeodiaaDoorBookP3
import Derived.Laws.StructEq
namespace Go.Proofs.YtfhbnojhmeodiaaDoor
set_option linter.unusedVariables false
open Go.RowKit
set_option maxRecDepth 100000 in
set_option maxHeartbeats 6400000 in
theorem stands_c (A B : Option Addr) (n c m c' : Nat) (l H : List Od) (w : World) (hl : OdSl w A n l) (hh : OrSl w B m H) (st : Stand l H) :
    Calls Tryd.prog 16 #[.slice A n c, .slice B m c'] w fun e w' => e = .returned (.bool true) ∧ Below w.heap.size w w' := by
  have hnm : n = m := hl.1.trans (st.eq.trans hh.1.symm)
  subst hnm
  have HL := Lib.hid hl
  have HH := Lib.hid hh
  have HNL := Lib.hid hl.1
  have HNH := Lib.hid hh.1
  have hn9 := hl.2.1
  have v : ((n : Int) != (n : Int)) = false := by simp
  have ST := Lib.hid st
  clear hl hh st
  go_enter Tryd.func16, Tryd.ntmps16
  go_wp2_with fail
  go_loopw [7, 17, 24] (fun _ ci _ wr => ∃ k : Nat, k ≤ n ∧ ci = .int .i64 k ∧ Below w.heap.size w wr) (fun _ ci _ _ => n - (intOf ci).toNat)
  case atStart => exact ⟨0, Nat.zero_le _, rfl, b0 _⟩
  case round =>
    obtain ⟨k, hk', rfl, hbl⟩ := hrel
    by_cases hk : k < n
    case neg =>
      obtain rfl : k = n := by omega
      go_wp2_with fail
      go_ret
      exact ⟨rfl, hbl⟩
    have hkl : k < l.length := by rw [← HNL.out]; exact hk
    obtain ⟨b, off, rfl, hlt, hat⟩ := (HL.out.below hbl).2.2 (by omega)
    have hcl := hat k hk
    have HAT := Lib.hid hat
    obtain ⟨j0, hj0, hje, hjn⟩ := ST.out.find hkl
    have hz0 := ST.out.z0 hkl
    have HBF : Hid (0 < k → _) := ST.out.before hkl
    have hjm : j0 < n := by rw [HNH.out]; exact hj0
    have HJE := Lib.hid hje
    have HJN := Lib.hid hjn
    generalize l.getD k od0 = zz at *
    obtain ⟨id, pr, am, ra, tt, tk, ar⟩ := zz
    obtain ⟨rfl, rfl⟩ := hz0
    obtain ⟨c0, c1, c2, c3, c4, c5, c6⟩ : wr.cell? ⟨b, off + k * 7, none⟩ = some (.int .i64 id) ∧ wr.cell? ⟨b, off + k * 7 + 1, none⟩ = some (.int .i64 pr) ∧ wr.cell? ⟨b, off + k * 7 + 2, none⟩ = some (.int .i64 am) ∧ wr.cell? ⟨b, off + k * 7 + 3, none⟩ = some (.int .i64 ra) ∧ wr.cell? ⟨b, off + k * 7 + 4, none⟩ = some (.int .i64 tt) ∧ wr.cell? ⟨b, off + k * 7 + 5, none⟩ = some (.int .i64 0) ∧ wr.cell? ⟨b, off + k * 7 + 6, none⟩ = some (.int .i64 0) := ⟨hcl 0 _ rfl, hcl 1 _ rfl, hcl 2 _ rfl, hcl 3 _ rfl, hcl 4 _ rfl, hcl 5 _ rfl, hcl 6 _ rfl⟩
    have hb1 := bA hbl (.cells #[.int .i64 id, .int .i64 pr, .int .i64 am, .int .i64 ra, .int .i64 tt, .int .i64 0, .int .i64 0] 39)
    have y := Blk.mk wr 39 #[.int .i64 id, .int .i64 pr, .int .i64 am, .int .i64 ra, .int .i64 tt, .int .i64 0, .int .i64 0]
    have HY := Lib.hid y
    have HB1 := Lib.hid hb1
    have hbb : b < (wr.alloc (.cells #[.int .i64 id, .int .i64 pr, .int .i64 am, .int .i64 ra, .int .i64 tt, .int .i64 0, .int .i64 0] 39)).heap.size := by rw [World.size_alloc]; omega
    have HPV : Hid (0 < k → wr.cell? ⟨b, off + (k - 1) * 7 + 1, none⟩ = some (.int .i64 (l.getD (k - 1) od0).pr) ∧ wr.cell? ⟨b, off + (k - 1) * 7, none⟩ = some (.int .i64 (l.getD (k - 1) od0).id)) := fun h0 => ⟨HAT.out (k - 1) (by omega) 1 _ rfl, HAT.out (k - 1) (by omega) 0 _ rfl⟩
    generalize l.getD (k - 1) od0 = zp at HPV HBF
    clear hcl hat hje hjn hj0 hkl y hb1
    go_wp2_with fail
    clear c0 c1 c2 c3 c4 c5 c6
    rename World => wo
    go_loopw [7, 24] (fun cf ci wr => ∃ j : Nat, j ≤ n ∧ ci = .int .i64 j ∧ cf = .bool (decide (j0 < j)) ∧ Below (wo.alloc (.cells #[.int .i64 id, .int .i64 pr, .int .i64 am, .int .i64 ra, .int .i64 tt, .int .i64 0, .int .i64 0] 39)).heap.size (wo.alloc (.cells #[.int .i64 id, .int .i64 pr, .int .i64 am, .int .i64 ra, .int .i64 tt, .int .i64 0, .int .i64 0] 39)) wr) (fun _ ci _ => n - (intOf ci).toNat)
    case atStart => exact ⟨0, Nat.zero_le _, rfl, by simp, b0 _⟩
    case round =>
      obtain ⟨j, hj', rfl, rfl, hb2⟩ := hrel
      have y2 := HY.out.t hb2
      obtain ⟨y0, y1, y2', y3, y4, y5, y6⟩ := y2.a7
      have hbt := bT HB1.out hb2
      have hbk : Below wo.heap.size wo wr := bT (below1 wo (.cells #[.int .i64 id, .int .i64 pr, .int .i64 am, .int .i64 ra, .int .i64 tt, .int .i64 0, .int .i64 0] 39)) hb2
      by_cases hj : j < n
      case neg =>
        obtain rfl : j = n := by omega
        have vf : decide (j0 < j) = true := by simpa using hjm
        by_cases hk0 : k = 0
        · subst hk0
          clear y2 hjm
          go_wp2_with fail
          go_quiet (fail)
          go_wp2_with fail
          go_roundw
          case rel => exact ⟨1, by omega, rfl, bD hbt _⟩
          case measure => simp [intOf]; omega
        have hpv := HPV.out (by omega)
        have hbf := HBF.out (by omega)
        obtain ⟨pd, pp, pa, pq, pt, pk, ps⟩ := zp
        dsimp only at hpv hbf
        have kp : (0 : Int) < (k : Int) := by omega
        have kp2 : decide (0 < k) = true := by simp; omega
        have k1 : IntKind.i64.wrap ((k : Int) - 1) = ((k : Int) - 1) := by rw [IntKind.wrap_i64]; omega
        have k2 : ((k : Int) - 1).toNat = k - 1 := by omega
        have k4 : 0 ≤ ((k : Int) - 1) := by omega
        have k5 : ((k : Int) - 1) < (j : Int) := by omega
        have k6 : (1 : Int) ≤ (k : Int) := by omega
        have k7 : 1 ≤ k := by omega
        have hp2 := (hbk.cell (p := ⟨b, _, none⟩) hlt).trans hpv.1
        have hq2 := (hbk.cell (p := ⟨b, _, none⟩) hlt).trans hpv.2
        clear y2 hjm hpv hk0
        have x1 : decide (pr < pp) = false := by simp; omega
        by_cases e2 : pp = pr
        · have x2 : (pp == pr) = true := by simpa using e2
          have x3 : decide (id ≤ pd) = false := by simp; omega
          clear e2 hbf
          go_wp2_with fail
          go_quiet (fail)
          go_wp2_with fail
          go_roundw
          case rel => exact ⟨k + 1, by omega, by go_num, bD hbt _⟩
          case measure => simp [intOf]; omega
        · have x2 : (pp == pr) = false := by simpa using e2
          clear e2 hbf
          go_wp2_with fail
          go_quiet (fail)
          go_wp2_with fail
          go_roundw
          case rel => exact ⟨k + 1, by omega, by go_num, bD hbt _⟩
          case measure => simp [intOf]; omega
      obtain ⟨b2, off2, rfl, hlt2, hat2⟩ := (HH.out.below hbt).2.2 (by omega)
      have hcl2 := hat2 j hj
      have HX : Hid (j = j0 → H.getD j od0 = ⟨id, pr, am, ra, tt, 0, 0⟩) := fun e => by rw [e]; exact HJE.out
      have HN : Hid (j ≠ j0 → (H.getD j od0).id ≠ id) := HJN.out j (by rw [← HNH.out]; exact hj)
      generalize H.getD j od0 = zx at *
      obtain ⟨xd, xp, xa, xr, xt, xk, xs⟩ := zx
      obtain ⟨d0, d1, d2, d3, d4⟩ : wr.cell? ⟨b2, off2 + j * 5, none⟩ = some (.int .i64 xd) ∧ wr.cell? ⟨b2, off2 + j * 5 + 1, none⟩ = some (.int .i64 xp) ∧ wr.cell? ⟨b2, off2 + j * 5 + 2, none⟩ = some (.int .i64 xa) ∧ wr.cell? ⟨b2, off2 + j * 5 + 3, none⟩ = some (.int .i64 xr) ∧ wr.cell? ⟨b2, off2 + j * 5 + 4, none⟩ = some (.int .i64 xt) := ⟨hcl2 0 _ rfl, hcl2 1 _ rfl, hcl2 2 _ rfl, hcl2 3 _ rfl, hcl2 4 _ rfl⟩
      have hb3 := bA hb2 (.cells #[.int .i64 xd, .int .i64 xp, .int .i64 xa, .int .i64 xr, .int .i64 xt] 29)
      have ylt := y2.lt
      obtain ⟨u0, u1, u2, u3, u4, u5, u6⟩ := (y2.alloc (.cells #[.int .i64 xd, .int .i64 xp, .int .i64 xa, .int .i64 xr, .int .i64 xt] 29)).a7
      clear hcl2 hat2 y2
      by_cases e : j < j0
      · have vf : decide (j0 < j) = false := by simp; omega
        have vd : (xd == id) = false := by simpa using HN.out (by omega)
        have vg : decide (j0 < j + 1) = false := by simp; omega
        clear hjm
        go_wp2_with fail
        go_roundw
        case rel => exact ⟨j + 1, by omega, by go_num, by rw [vg], hb3⟩
        case measure => simp [intOf]; omega
      by_cases e2 : j = j0
      · have hx := HX.out e2
        injection hx with h1 h2 h3 h4 h5 _ _
        subst h1; subst h2; subst h3; subst h4; subst h5
        have vf : decide (j0 < j) = false := by simp; omega
        have vg : decide (j0 < j + 1) = true := by simp; omega
        clear hjm e e2
        go_wp2_with fail
        go_roundw
        case rel => exact ⟨j + 1, by omega, by go_num, by rw [vg], hb3⟩
        case measure => simp [intOf]; omega
      · have vf : decide (j0 < j) = true := by simp; omega
        have vg : decide (j0 < j + 1) = true := by simp; omega
        clear hjm e e2
        go_wp2_with fail
        go_roundw
        case rel => exact ⟨j + 1, by omega, by go_num, by rw [vg], hb3⟩
        case measure => simp [intOf]; omega
--%%
end Go.Proofs.YtfhbnojhmeodiaaDoor
