/-
  Layer 18's law AttachRight: its walk. Conditions as named.
-/
import Derived.Test.YtclpchhklcjhhaaDoorLaw18d
import Derived.Test.YtclpchhklcjhhaaDoorParse2
import Derived.Test.YtclpchhklcjhhaaDoorTextP
namespace Go.Proofs.YtclpchhklcjhhaaDoor
set_option linter.unusedVariables false
open Go.RowKit
theorem parse_word (x : Int) (w : World) (h1 : -100000000000 ≤ x) (h2 : x ≤ 100000000000) : Calls Tryd.prog 15 #[.string ⟨(textB x).toArray⟩] w fun e w' => e = .returned (.tuple #[.int .i64 x, .int .i64 0]) ∧ Below w.heap.size w w' := by
  have hl := textB_len x h1 h2
  have hp := parse_text x h1 h2
  exact parse_c ⟨(textB x).toArray⟩ w (by show (textB x).toArray.size ≤ _; rw [List.size_toArray]; omega) x 0 (Lib.hid (by show x = parseV (textB x).toArray.toList; rw [List.toList_toArray]; exact hp.2.symm)) (Lib.hid (by show 0 = parseE (textB x).toArray.toList; rw [List.toList_toArray]; exact hp.1.symm))
theorem okT_succ (L : List Tk) (k : Nat) : okT L (k + 1) = (okT L k && condT L k) := by
  unfold okT
  rw [List.range_succ, List.all_append]
  simp
def TkR5 (z : Tk) : Prop := TkR z ∧ -100000000000 ≤ z.du ∧ z.du ≤ 100000000000
--%%
set_option maxRecDepth 100000 in
set_option maxHeartbeats 6400000 in
theorem attachRight_walk (A : Option Addr) (n c : Nat) (L : List Tk) (w : World) (hl : TkSl w A n L) (htab : Tab w) :
    Calls Tryd.prog 6 #[.slice A n c] w fun e w' => e = .returned (.bool true) ∧ Below w.heap.size w w' := by
  have HL := Lib.hid hl
  have HT := Lib.hid htab
  have hn9 := hl.2.1
  have H0 : Hid (shortTo L 0 = false) := rfl
  have H1 : Hid (okT L 0 = true) := rfl
  clear hl htab
  go_enter Tryd.func6, Tryd.ntmps6
  go_wp2_with fail
  refine (serves_c _ HT.out).mono ?_
  rintro e w1 ⟨rfl, hb1⟩
  by_cases g1 : (40 : Int) < (n : Int)
  · have v : decide ((40 : Int) < (n : Int)) = true := by simpa using g1
    clear g1
    go_wp2_with fail
    go_ret
    exact ⟨rfl, hb1⟩
  have v : decide ((40 : Int) < (n : Int)) = false := by simpa using g1
  clear g1
  go_wp2_with fail
  go_loopw [3, 4, 8, 22, 37] (fun g sh _ i _ wr => ∃ k : Nat, k ≤ n ∧ i = .int .i64 k ∧ g = .bool (okT L k) ∧ sh = .bool (shortTo L k) ∧ Hid (∀ j, j < k → TkR5 (L.getD j tk0)) ∧ Below w1.heap.size w1 wr) (fun _ _ _ i _ _ => n - (intOf i).toNat)
  case atStart => exact ⟨0, Nat.zero_le _, rfl, by rw [H1.out], by rw [H0.out], fun j hj => absurd hj (by omega), b0 _⟩
  case round =>
    obtain ⟨k, hk', rfl, rfl, rfl, HE, hbl⟩ := hrel
    have hB := bT hb1 hbl
    by_cases hk : k < n
    case neg =>
      obtain rfl : k = n := by omega
      have KR := Lib.hid (aright_c A k c L _ (RowSl.below HL.out hB) (fun j hj => (HE.out j hj).1) (okT L k) (Lib.hid rfl))
      generalize okT L k = g at *
      have vg : (g != g) = false := by simp
      go_wp2_with fail
      refine KR.out.mono ?_
      rintro e w3 ⟨rfl, hb3⟩
      have hB3 := bT hB hb3
      go_wp2_with fail
      go_loopw [11, 12, 13, 14, 90, 97] (fun _ _ _ _ i _ wr => ∃ j : Nat, j ≤ k ∧ i = .int .i64 j ∧ Below w3.heap.size w3 wr) (fun _ _ _ _ i _ _ => k - (intOf i).toNat)
      case atStart => exact ⟨0, Nat.zero_le _, rfl, b0 _⟩
      case round =>
        obtain ⟨j, hj', rfl, hbq⟩ := hrel
        have hBq := bT hB3 hbq
        by_cases hj : j < k
        case neg =>
          obtain rfl : j = k := by omega
          go_wp2_with fail
          go_ret
          exact ⟨rfl, hBq⟩
        obtain ⟨b, off, rfl, hlt, hat⟩ := (RowSl.below HL.out hBq).2.2 (by omega)
        have hcl := hat j hj
        have hbd := (HE.out j hj).1
        generalize L.getD j tk0 = zz at *
        obtain ⟨zo, zb, zr, zd, zt, zc⟩ := zz
        unfold TkR at hbd
        dsimp only at hbd
        obtain ⟨D0, D1, D2, D3⟩ := hbd
        have D0 := Lib.hid D0
        have D1 := Lib.hid D1
        have D2 := Lib.hid D2
        have D3 := Lib.hid D3
        obtain ⟨c0, c1, c2, c3, c4, c5⟩ : wr.cell? ⟨b, off + j * 6, none⟩ = some (.int .i64 zo) ∧ wr.cell? ⟨b, off + j * 6 + 1, none⟩ = some (.int .i64 zb) ∧ wr.cell? ⟨b, off + j * 6 + 2, none⟩ = some (.int .i64 zr) ∧ wr.cell? ⟨b, off + j * 6 + 3, none⟩ = some (.int .i64 zd) ∧ wr.cell? ⟨b, off + j * 6 + 4, none⟩ = some (.int .i64 zt) ∧ wr.cell? ⟨b, off + j * 6 + 5, none⟩ = some (.int .i64 zc) := ⟨hcl 0 _ rfl, hcl 1 _ rfl, hcl 2 _ rfl, hcl 3 _ rfl, hcl 4 _ rfl, hcl 5 _ rfl⟩
        have hbx := bA hbq (.cells #[.int .i64 zo, .int .i64 zb, .int .i64 zr, .int .i64 zd, .int .i64 zt, .int .i64 zc] 36)
        have yb := Blk.mk wr 36 #[.int .i64 zo, .int .i64 zb, .int .i64 zr, .int .i64 zd, .int .i64 zt, .int .i64 zc]
        have hBx := bT hB3 hbx
        clear hat hcl
        go_wp2_with fail
        refine (aline_c zo zb zr zd zt zc _ D0.out D1.out D2.out D3.out (HT.out.t hBx)).mono ?_
        rintro e w6 ⟨⟨bs, rfl, hltb, s0, s1, s2, s3⟩, hb7⟩
        have Y := Lib.hid (yb.t hb7)
        have hby := bT hbx hb7
        have S0 := Lib.hid s0
        have S1 := Lib.hid s1
        have S2 := Lib.hid s2
        have S3 := Lib.hid s3
        clear s0 s1 s2 s3 c0 c1 c2 c3 c4 c5
        go_wp2_with fail
        go_loopw [11, 12, 13, 14, 97] (fun _ _ _ _ i wr => ∃ q : Nat, q ≤ 4 ∧ i = .int .i64 q ∧ Below w6.heap.size w6 wr) (fun _ _ _ _ i _ => 4 - (intOf i).toNat)
        case atStart => exact ⟨0, Nat.zero_le _, rfl, b0 _⟩
        case round =>
          obtain ⟨q, hq', rfl, hbm⟩ := hrel
          by_cases hq : q < 4
          case neg =>
            obtain rfl : q = 4 := by omega
            go_wp2_with fail
            go_roundw
            case rel => exact ⟨j + 1, by omega, by go_num, bT hby hbm⟩
            case measure => simp [intOf]; omega
          rcases (by omega : q = 0 ∨ q = 1 ∨ q = 2 ∨ q = 3) with rfl | rfl | rfl | rfl
          · have i0 : ∀ w, (Instr.index 44 (.agg #[.int .i64 zb, .int .i64 zr, .int .i64 zt, .int .i64 zc]) (.int .i64 0)).run Tryd.prog w = .ok (.int .i64 zb) w := fun _ => by kernel_rfl
            have sq := (hbm.cell (p := ⟨bs, 0, none⟩) hltb).trans S0.out
            go_wp2_with fail
            refine (parse_word zb _ D0.out.1 D0.out.2).mono ?_
            rintro e w7 ⟨rfl, hb8⟩
            have hbn := bT hbm hb8
            have q1 := (Y.out.t hbn).cell 1
            have q2 := (Y.out.t hbn).cell 2
            have q4 := (Y.out.t hbn).cell 4
            have q5 := (Y.out.t hbn).cell 5
            go_wp2_with fail
            go_roundw
            case rel => exact ⟨1, by omega, rfl, hbn⟩
            case measure => simp [intOf]
          · have i0 : ∀ w, (Instr.index 44 (.agg #[.int .i64 zb, .int .i64 zr, .int .i64 zt, .int .i64 zc]) (.int .i64 1)).run Tryd.prog w = .ok (.int .i64 zr) w := fun _ => by kernel_rfl
            have sq := (hbm.cell (p := ⟨bs, 1, none⟩) hltb).trans S1.out
            go_wp2_with fail
            refine (parse_word zr _ D1.out.1 D1.out.2).mono ?_
            rintro e w7 ⟨rfl, hb8⟩
            have hbn := bT hbm hb8
            have q1 := (Y.out.t hbn).cell 1
            have q2 := (Y.out.t hbn).cell 2
            have q4 := (Y.out.t hbn).cell 4
            have q5 := (Y.out.t hbn).cell 5
            go_wp2_with fail
            go_roundw
            case rel => exact ⟨2, by omega, rfl, hbn⟩
            case measure => simp [intOf]
          · have i0 : ∀ w, (Instr.index 44 (.agg #[.int .i64 zb, .int .i64 zr, .int .i64 zt, .int .i64 zc]) (.int .i64 2)).run Tryd.prog w = .ok (.int .i64 zt) w := fun _ => by kernel_rfl
            have sq := (hbm.cell (p := ⟨bs, 2, none⟩) hltb).trans S2.out
            go_wp2_with fail
            refine (parse_word zt _ D2.out.1 D2.out.2).mono ?_
            rintro e w7 ⟨rfl, hb8⟩
            have hbn := bT hbm hb8
            have q1 := (Y.out.t hbn).cell 1
            have q2 := (Y.out.t hbn).cell 2
            have q4 := (Y.out.t hbn).cell 4
            have q5 := (Y.out.t hbn).cell 5
            go_wp2_with fail
            go_roundw
            case rel => exact ⟨3, by omega, rfl, hbn⟩
            case measure => simp [intOf]
          · have i0 : ∀ w, (Instr.index 44 (.agg #[.int .i64 zb, .int .i64 zr, .int .i64 zt, .int .i64 zc]) (.int .i64 3)).run Tryd.prog w = .ok (.int .i64 zc) w := fun _ => by kernel_rfl
            have sq := (hbm.cell (p := ⟨bs, 3, none⟩) hltb).trans S3.out
            go_wp2_with fail
            refine (parse_word zc _ D3.out.1 D3.out.2).mono ?_
            rintro e w7 ⟨rfl, hb8⟩
            have hbn := bT hbm hb8
            have q1 := (Y.out.t hbn).cell 1
            have q2 := (Y.out.t hbn).cell 2
            have q4 := (Y.out.t hbn).cell 4
            have q5 := (Y.out.t hbn).cell 5
            go_wp2_with fail
            go_roundw
            case rel => exact ⟨4, by omega, rfl, hbn⟩
            case measure => simp [intOf]
    obtain ⟨b, off, rfl, hlt, hat⟩ := (RowSl.below HL.out hB).2.2 (by omega)
    have hcl := hat k hk
    have HSH : Hid (shortTo L (k + 1) = (shortTo L k || decide ((L.getD k tk0).ta < (L.getD k tk0).du))) := rfl
    have HN := Lib.hid (condT_no L k)
    have HY := Lib.hid (condT_yes L k)
    have HOK := Lib.hid (okT_succ L k)
    have HEX : Hid (TkR5 (L.getD k tk0) → ∀ j, j < k + 1 → TkR5 (L.getD j tk0)) := fun h j hj => by
      rcases (by omega : j = k ∨ j < k) with rfl | hj
      · exact h
      · exact HE.out j hj
    generalize okT L k = gk at *
    generalize condT L k = ck at *
    generalize shortTo L k = sk at *
    generalize L.getD k tk0 = zz at *
    obtain ⟨zo, zb, zr, zd, zt, zc⟩ := zz
    dsimp only at HSH HN HY
    obtain ⟨c0, c1, c2, c3, c4, c5⟩ : wr.cell? ⟨b, off + k * 6, none⟩ = some (.int .i64 zo) ∧ wr.cell? ⟨b, off + k * 6 + 1, none⟩ = some (.int .i64 zb) ∧ wr.cell? ⟨b, off + k * 6 + 2, none⟩ = some (.int .i64 zr) ∧ wr.cell? ⟨b, off + k * 6 + 3, none⟩ = some (.int .i64 zd) ∧ wr.cell? ⟨b, off + k * 6 + 4, none⟩ = some (.int .i64 zt) ∧ wr.cell? ⟨b, off + k * 6 + 5, none⟩ = some (.int .i64 zc) := ⟨hcl 0 _ rfl, hcl 1 _ rfl, hcl 2 _ rfl, hcl 3 _ rfl, hcl 4 _ rfl, hcl 5 _ rfl⟩
    have hbx := bA hbl (.cells #[.int .i64 zo, .int .i64 zb, .int .i64 zr, .int .i64 zd, .int .i64 zt, .int .i64 zc] 36)
    have hBx := bT hb1 hbx
    clear hat hcl
    go_wp2_with fail
    go_loop [8, 37] (fun _ i => ∃ q : Nat, q ≤ 5 ∧ i = .int .i64 q ∧ ∀ j, j < q → -100000000000 ≤ [zb, zr, zd, zt, zc].getD j 0 ∧ [zb, zr, zd, zt, zc].getD j 0 ≤ 100000000000) (fun _ i => 5 - (intOf i).toNat)
    case atStart => exact ⟨0, Nat.zero_le _, rfl, fun j hj => absurd hj (by omega)⟩
    case round =>
      obtain ⟨q, hq', rfl, hall⟩ := hrel
      by_cases hq : q < 5
      case neg =>
        obtain rfl : q = 5 := by omega
        have d := hall
        have d0 : -100000000000 ≤ zb ∧ zb ≤ 100000000000 := d 0 (by omega)
        have d1 : -100000000000 ≤ zr ∧ zr ≤ 100000000000 := d 1 (by omega)
        have d2 : -100000000000 ≤ zd ∧ zd ≤ 100000000000 := d 2 (by omega)
        have d3 : -100000000000 ≤ zt ∧ zt ≤ 100000000000 := d 3 (by omega)
        have d4 : -100000000000 ≤ zc ∧ zc ≤ 100000000000 := d 4 (by omega)
        have HE2 := Lib.hid (HEX.out ⟨⟨d0, d1, d3, d4⟩, d2⟩)
        clear d hall
        obtain ⟨d00, d01⟩ := d0
        obtain ⟨d10, d11⟩ := d1
        obtain ⟨d20, d21⟩ := d2
        obtain ⟨d30, d31⟩ := d3
        obtain ⟨d40, d41⟩ := d4
        by_cases e1 : zd - zb = zr
        case neg =>
          have hc : ck = false := HN.out (fun h => e1 (by have := h.1; omega))
          subst hc
          have HOK2 : Hid (okT L (k + 1) = false) := Lib.hid (HOK.out.trans (by simp))
          have w1 : (zd - zb != zr) = true := by simpa using e1
          clear e1
          by_cases g9 : zt < zd
          · have v9 : decide (zt < zd) = true := by simpa using g9
            have HSH2 : Hid (shortTo L (k + 1) = true) := Lib.hid (HSH.out.trans (by rw [v9]; simp))
            clear g9
            go_wp2_with fail
            go_roundw
            case rel => exact ⟨k + 1, by omega, by go_num, by rw [HOK2.out], by rw [HSH2.out], HE2.out, hbx⟩
            case measure => simp [intOf]; omega
          · have v9 : decide (zt < zd) = false := by simpa using g9
            have HSH2 : Hid (shortTo L (k + 1) = sk) := Lib.hid (HSH.out.trans (by rw [v9]; simp))
            clear g9
            go_wp2_with fail
            go_roundw
            case rel => exact ⟨k + 1, by omega, by go_num, by rw [HOK2.out], by rw [HSH2.out], HE2.out, hbx⟩
            case measure => simp [intOf]; omega
        have u0 : (zd - zb != zr) = false := by simpa using e1
        by_cases e2 : zd - zc = zt
        case neg =>
          have hc : ck = false := HN.out (fun h => e2 (by have := h.2.1; omega))
          subst hc
          have HOK2 : Hid (okT L (k + 1) = false) := Lib.hid (HOK.out.trans (by simp))
          have w1 : (zd - zc != zt) = true := by simpa using e2
          clear e1 e2
          by_cases g9 : zt < zd
          · have v9 : decide (zt < zd) = true := by simpa using g9
            have HSH2 : Hid (shortTo L (k + 1) = true) := Lib.hid (HSH.out.trans (by rw [v9]; simp))
            clear g9
            go_wp2_with fail
            go_roundw
            case rel => exact ⟨k + 1, by omega, by go_num, by rw [HOK2.out], by rw [HSH2.out], HE2.out, hbx⟩
            case measure => simp [intOf]; omega
          · have v9 : decide (zt < zd) = false := by simpa using g9
            have HSH2 : Hid (shortTo L (k + 1) = sk) := Lib.hid (HSH.out.trans (by rw [v9]; simp))
            clear g9
            go_wp2_with fail
            go_roundw
            case rel => exact ⟨k + 1, by omega, by go_num, by rw [HOK2.out], by rw [HSH2.out], HE2.out, hbx⟩
            case measure => simp [intOf]; omega
        have u1 : (zd - zc != zt) = false := by simpa using e2
        by_cases e3 : zt < 0
        · have hc : ck = false := HN.out (fun h => by have := h.2.2.1; omega)
          subst hc
          have HOK2 : Hid (okT L (k + 1) = false) := Lib.hid (HOK.out.trans (by simp))
          have w1 : decide (zt < 0) = true := by simpa using e3
          clear e1 e2 e3
          by_cases g9 : zt < zd
          · have v9 : decide (zt < zd) = true := by simpa using g9
            have HSH2 : Hid (shortTo L (k + 1) = true) := Lib.hid (HSH.out.trans (by rw [v9]; simp))
            clear g9
            go_wp2_with fail
            go_roundw
            case rel => exact ⟨k + 1, by omega, by go_num, by rw [HOK2.out], by rw [HSH2.out], HE2.out, hbx⟩
            case measure => simp [intOf]; omega
          · have v9 : decide (zt < zd) = false := by simpa using g9
            have HSH2 : Hid (shortTo L (k + 1) = sk) := Lib.hid (HSH.out.trans (by rw [v9]; simp))
            clear g9
            go_wp2_with fail
            go_roundw
            case rel => exact ⟨k + 1, by omega, by go_num, by rw [HOK2.out], by rw [HSH2.out], HE2.out, hbx⟩
            case measure => simp [intOf]; omega
        have u3 : decide (zt < 0) = false := by simpa using e3
        have HY2 := Lib.hid (HY.out (by omega) (by omega) (by omega))
        by_cases e4 : 0 < zt
        case neg =>
          have hc : ck = true := HY2.out (fun h => e4 h.2)
          subst hc
          have HOK2 : Hid (okT L (k + 1) = gk) := Lib.hid (HOK.out.trans (by simp))
          have w1 : decide (0 < zt) = false := by simpa using e4
          clear e1 e2 e3 e4
          by_cases g9 : zt < zd
          · have v9 : decide (zt < zd) = true := by simpa using g9
            have HSH2 : Hid (shortTo L (k + 1) = true) := Lib.hid (HSH.out.trans (by rw [v9]; simp))
            clear g9
            go_wp2_with fail
            go_roundw
            case rel => exact ⟨k + 1, by omega, by go_num, by rw [HOK2.out], by rw [HSH2.out], HE2.out, hbx⟩
            case measure => simp [intOf]; omega
          · have v9 : decide (zt < zd) = false := by simpa using g9
            have HSH2 : Hid (shortTo L (k + 1) = sk) := Lib.hid (HSH.out.trans (by rw [v9]; simp))
            clear g9
            go_wp2_with fail
            go_roundw
            case rel => exact ⟨k + 1, by omega, by go_num, by rw [HOK2.out], by rw [HSH2.out], HE2.out, hbx⟩
            case measure => simp [intOf]; omega
        have u4 : decide (0 < zt) = true := by simpa using e4
        cases sk
        · have hc : ck = true := HY2.out (fun h => by cases h.1)
          subst hc
          have HOK2 : Hid (okT L (k + 1) = gk) := Lib.hid (HOK.out.trans (by simp))
          clear e1 e2 e3 e4
          by_cases g9 : zt < zd
          · have v9 : decide (zt < zd) = true := by simpa using g9
            have HSH2 : Hid (shortTo L (k + 1) = true) := Lib.hid (HSH.out.trans (by rw [v9]; simp))
            clear g9
            go_wp2_with fail
            go_roundw
            case rel => exact ⟨k + 1, by omega, by go_num, by rw [HOK2.out], by rw [HSH2.out], HE2.out, hbx⟩
            case measure => simp [intOf]; omega
          · have v9 : decide (zt < zd) = false := by simpa using g9
            have HSH2 : Hid (shortTo L (k + 1) = false) := Lib.hid (HSH.out.trans (by rw [v9]; simp))
            clear g9
            go_wp2_with fail
            go_roundw
            case rel => exact ⟨k + 1, by omega, by go_num, by rw [HOK2.out], by rw [HSH2.out], HE2.out, hbx⟩
            case measure => simp [intOf]; omega
        · have hc : ck = false := HN.out (fun h => h.2.2.2 ⟨rfl, e4⟩)
          subst hc
          have HOK2 : Hid (okT L (k + 1) = false) := Lib.hid (HOK.out.trans (by simp))
          clear e1 e2 e3 e4
          by_cases g9 : zt < zd
          · have v9 : decide (zt < zd) = true := by simpa using g9
            have HSH2 : Hid (shortTo L (k + 1) = true) := Lib.hid (HSH.out.trans (by rw [v9]; simp))
            clear g9
            go_wp2_with fail
            go_roundw
            case rel => exact ⟨k + 1, by omega, by go_num, by rw [HOK2.out], by rw [HSH2.out], HE2.out, hbx⟩
            case measure => simp [intOf]; omega
          · have v9 : decide (zt < zd) = false := by simpa using g9
            have HSH2 : Hid (shortTo L (k + 1) = true) := Lib.hid (HSH.out.trans (by rw [v9]; simp))
            clear g9
            go_wp2_with fail
            go_roundw
            case rel => exact ⟨k + 1, by omega, by go_num, by rw [HOK2.out], by rw [HSH2.out], HE2.out, hbx⟩
            case measure => simp [intOf]; omega
      have HNX : Hid (-100000000000 ≤ [zb, zr, zd, zt, zc].getD q 0 → [zb, zr, zd, zt, zc].getD q 0 ≤ 100000000000 → ∀ j, j < q + 1 → -100000000000 ≤ [zb, zr, zd, zt, zc].getD j 0 ∧ [zb, zr, zd, zt, zc].getD j 0 ≤ 100000000000) := fun h1 h2 j hj => by
        rcases (by omega : j = q ∨ j < q) with rfl | hj
        · exact ⟨h1, h2⟩
        · exact hall j hj
      clear hall
      rcases (by omega : q = 0 ∨ q = 1 ∨ q = 2 ∨ q = 3 ∨ q = 4) with rfl | rfl | rfl | rfl | rfl
      · have e : [zb, zr, zd, zt, zc].getD 0 0 = zb := rfl
        rw [e] at HNX
        have i0 : ∀ w, (Instr.index 40 (.agg #[.int .i64 zb, .int .i64 zr, .int .i64 zd, .int .i64 zt, .int .i64 zc]) (.int .i64 0)).run Tryd.prog w = .ok (.int .i64 zb) w := fun _ => by kernel_rfl
        by_cases g1 : 100000000000 < zb
        · have v1 : decide (100000000000 < zb) = true := by simpa using g1
          clear g1
          go_wp2_with fail
          go_ret
          exact ⟨rfl, hBx⟩
        have v1 : decide (100000000000 < zb) = false := by simpa using g1
        by_cases g2 : zb < -100000000000
        · have v2 : decide (zb < -100000000000) = true := by simpa using g2
          clear g1 g2
          go_wp2_with fail
          go_ret
          exact ⟨rfl, hBx⟩
        have v2 : decide (zb < -100000000000) = false := by simpa using g2
        have HNX2 := Lib.hid (HNX.out (by omega) (by omega))
        clear g1 g2
        go_wp2_with fail
        go_round
        case rel => exact ⟨1, by omega, rfl, HNX2.out⟩
        case measure => simp [intOf]
      · have e : [zb, zr, zd, zt, zc].getD 1 0 = zr := rfl
        rw [e] at HNX
        have i0 : ∀ w, (Instr.index 40 (.agg #[.int .i64 zb, .int .i64 zr, .int .i64 zd, .int .i64 zt, .int .i64 zc]) (.int .i64 1)).run Tryd.prog w = .ok (.int .i64 zr) w := fun _ => by kernel_rfl
        by_cases g1 : 100000000000 < zr
        · have v1 : decide (100000000000 < zr) = true := by simpa using g1
          clear g1
          go_wp2_with fail
          go_ret
          exact ⟨rfl, hBx⟩
        have v1 : decide (100000000000 < zr) = false := by simpa using g1
        by_cases g2 : zr < -100000000000
        · have v2 : decide (zr < -100000000000) = true := by simpa using g2
          clear g1 g2
          go_wp2_with fail
          go_ret
          exact ⟨rfl, hBx⟩
        have v2 : decide (zr < -100000000000) = false := by simpa using g2
        have HNX2 := Lib.hid (HNX.out (by omega) (by omega))
        clear g1 g2
        go_wp2_with fail
        go_round
        case rel => exact ⟨2, by omega, rfl, HNX2.out⟩
        case measure => simp [intOf]
      · have e : [zb, zr, zd, zt, zc].getD 2 0 = zd := rfl
        rw [e] at HNX
        have i0 : ∀ w, (Instr.index 40 (.agg #[.int .i64 zb, .int .i64 zr, .int .i64 zd, .int .i64 zt, .int .i64 zc]) (.int .i64 2)).run Tryd.prog w = .ok (.int .i64 zd) w := fun _ => by kernel_rfl
        by_cases g1 : 100000000000 < zd
        · have v1 : decide (100000000000 < zd) = true := by simpa using g1
          clear g1
          go_wp2_with fail
          go_ret
          exact ⟨rfl, hBx⟩
        have v1 : decide (100000000000 < zd) = false := by simpa using g1
        by_cases g2 : zd < -100000000000
        · have v2 : decide (zd < -100000000000) = true := by simpa using g2
          clear g1 g2
          go_wp2_with fail
          go_ret
          exact ⟨rfl, hBx⟩
        have v2 : decide (zd < -100000000000) = false := by simpa using g2
        have HNX2 := Lib.hid (HNX.out (by omega) (by omega))
        clear g1 g2
        go_wp2_with fail
        go_round
        case rel => exact ⟨3, by omega, rfl, HNX2.out⟩
        case measure => simp [intOf]
      · have e : [zb, zr, zd, zt, zc].getD 3 0 = zt := rfl
        rw [e] at HNX
        have i0 : ∀ w, (Instr.index 40 (.agg #[.int .i64 zb, .int .i64 zr, .int .i64 zd, .int .i64 zt, .int .i64 zc]) (.int .i64 3)).run Tryd.prog w = .ok (.int .i64 zt) w := fun _ => by kernel_rfl
        by_cases g1 : 100000000000 < zt
        · have v1 : decide (100000000000 < zt) = true := by simpa using g1
          clear g1
          go_wp2_with fail
          go_ret
          exact ⟨rfl, hBx⟩
        have v1 : decide (100000000000 < zt) = false := by simpa using g1
        by_cases g2 : zt < -100000000000
        · have v2 : decide (zt < -100000000000) = true := by simpa using g2
          clear g1 g2
          go_wp2_with fail
          go_ret
          exact ⟨rfl, hBx⟩
        have v2 : decide (zt < -100000000000) = false := by simpa using g2
        have HNX2 := Lib.hid (HNX.out (by omega) (by omega))
        clear g1 g2
        go_wp2_with fail
        go_round
        case rel => exact ⟨4, by omega, rfl, HNX2.out⟩
        case measure => simp [intOf]
      · have e : [zb, zr, zd, zt, zc].getD 4 0 = zc := rfl
        rw [e] at HNX
        have i0 : ∀ w, (Instr.index 40 (.agg #[.int .i64 zb, .int .i64 zr, .int .i64 zd, .int .i64 zt, .int .i64 zc]) (.int .i64 4)).run Tryd.prog w = .ok (.int .i64 zc) w := fun _ => by kernel_rfl
        by_cases g1 : 100000000000 < zc
        · have v1 : decide (100000000000 < zc) = true := by simpa using g1
          clear g1
          go_wp2_with fail
          go_ret
          exact ⟨rfl, hBx⟩
        have v1 : decide (100000000000 < zc) = false := by simpa using g1
        by_cases g2 : zc < -100000000000
        · have v2 : decide (zc < -100000000000) = true := by simpa using g2
          clear g1 g2
          go_wp2_with fail
          go_ret
          exact ⟨rfl, hBx⟩
        have v2 : decide (zc < -100000000000) = false := by simpa using g2
        have HNX2 := Lib.hid (HNX.out (by omega) (by omega))
        clear g1 g2
        go_wp2_with fail
        go_round
        case rel => exact ⟨5, by omega, rfl, HNX2.out⟩
        case measure => simp [intOf]
--%%
end Go.Proofs.YtclpchhklcjhhaaDoor
