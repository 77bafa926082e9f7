/-
  The walk of TableModes. Conditions as named.
-/
import Derived.Test.YtbliblhipecgfaaGreatDoorTBuild
namespace Go.Proofs.YtbliblhipecgfaaGreatDoor
set_option linter.unusedVariables false
open Go.RowKit
theorem T0_bands : bandsErr [⟨0, 500, 700⟩] = 0 := by decide +kernel
def nms7 (j : Nat) : ByteArray := (st0 :: modesS).getD j st0
def gotN (nm : ByteArray) : Nat → Int
  | 0 => 0
  | j + 1 => if 0 < j ∧ nms7 j = nm then (j : Int) else gotN nm j
theorem gotN_mode (nm : ByteArray) : gotN nm 7 = modeV nm := by
  by_cases h1 : nms7 1 = nm
  · subst h1; decide +kernel
  by_cases h2 : nms7 2 = nm
  · subst h2; decide +kernel
  by_cases h3 : nms7 3 = nm
  · subst h3; decide +kernel
  by_cases h4 : nms7 4 = nm
  · subst h4; decide +kernel
  by_cases h5 : nms7 5 = nm
  · subst h5; decide +kernel
  by_cases h6 : nms7 6 = nm
  · subst h6; decide +kernel
  have e1 : gotN nm 7 = 0 := by simp [gotN, h1, h2, h3, h4, h5, h6]
  have e2 : modeI nm = -1 := by
    have g1 : (⟨#[100, 111, 119, 110]⟩ : ByteArray) ≠ nm := h1
    have g2 : (⟨#[117, 112]⟩ : ByteArray) ≠ nm := h2
    have g3 : (⟨#[105, 110, 119, 97, 114, 100]⟩ : ByteArray) ≠ nm := h3
    have g4 : (⟨#[104, 97, 108, 102, 117, 112]⟩ : ByteArray) ≠ nm := h4
    have g5 : (⟨#[104, 97, 108, 102, 101, 118, 101, 110]⟩ : ByteArray) ≠ nm := h5
    have g6 : (⟨#[104, 97, 108, 102, 100, 111, 119, 110]⟩ : ByteArray) ≠ nm := h6
    simp [modeI, Lib.idxOfS, modesS, Lib.idxFromS, g1, g2, g3, g4, g5, g6]
  rw [e1]
  unfold modeV
  rw [e2]; rfl
theorem nm_cell : ∀ j, j < 7 → (#[.string ⟨#[]⟩, .string ⟨#[100, 111, 119, 110]⟩, .string ⟨#[117, 112]⟩, .string ⟨#[105, 110, 119, 97, 114, 100]⟩, .string ⟨#[104, 97, 108, 102, 117, 112]⟩, .string ⟨#[104, 97, 108, 102, 101, 118, 101, 110]⟩, .string ⟨#[104, 97, 108, 102, 100, 111, 119, 110]⟩] : Array Value)[j]? = some (.string (nms7 j)) := fun j hj => by
  rcases (by omega : j = 0 ∨ j = 1 ∨ j = 2 ∨ j = 3 ∨ j = 4 ∨ j = 5 ∨ j = 6) with rfl | rfl | rfl | rfl | rfl | rfl | rfl <;> rfl
theorem nm_mode (j : Nat) (h0 : 0 < j) (h : j < 7) : nms7 j = modeN j := by
  rcases (by omega : j = 1 ∨ j = 2 ∨ j = 3 ∨ j = 4 ∨ j = 5 ∨ j = 6) with rfl | rfl | rfl | rfl | rfl | rfl <;> decide +kernel
theorem nm_index (j : Nat) (hj : j < 7) (w : World) : (Instr.index 38 (.agg #[.string ⟨#[]⟩, .string ⟨#[100, 111, 119, 110]⟩, .string ⟨#[117, 112]⟩, .string ⟨#[105, 110, 119, 97, 114, 100]⟩, .string ⟨#[104, 97, 108, 102, 117, 112]⟩, .string ⟨#[104, 97, 108, 102, 101, 118, 101, 110]⟩, .string ⟨#[104, 97, 108, 102, 100, 111, 119, 110]⟩]) (.int .i64 (j : Int))).run Tryz.prog w = .ok (.string (nms7 j)) w := by
  rcases (by omega : j = 0 ∨ j = 1 ∨ j = 2 ∨ j = 3 ∨ j = 4 ∨ j = 5 ∨ j = 6) with rfl | rfl | rfl | rfl | rfl | rfl | rfl <;> kernel_rfl
--%%
set_option maxRecDepth 100000 in
set_option maxHeartbeats 6400000 in
theorem tableModes_row (mode : Int) (nm : ByteArray) (w : World) (hnm : nm.size ≤ 9223372036854775807) (htab : Tab w) (htab2 : TabS w) (hml : ML w) :
    Calls Tryz.prog 4 #[.int .i64 mode, .string nm] w fun e w' => e = .returned (.bool true) ∧ Below w.heap.size w w' := by
  have KB := Lib.hid (builds_c w hml htab2 htab)
  have HT := Lib.hid htab2
  clear hml htab htab2
  go_enter Tryz.func4, Tryz.ntmps4
  go_wp2_with fail
  refine KB.out.mono ?_
  rintro e w1 ⟨⟨Bs, ds, Bc, dc, Bk, dk, rfl, hv⟩, hb1⟩
  simp only [tbV]
  have HB1 := Lib.hid (bA hb1 (.cells #[.slice Bs 1 ds, .slice Bc 1 dc, .slice Bk 2 dk, .int .i64 5000, .int .i64 1] 26))
  have hC := hv.c.below (below1 w1 (.cells #[.slice Bs 1 ds, .slice Bc 1 dc, .slice Bk 2 dk, .int .i64 5000, .int .i64 1] 26))
  obtain ⟨b, off, rfl, hlt, hat⟩ := hC.2.2 (by decide)
  obtain ⟨c0, _, c1, ⟨A', n', c', c2, hbs⟩, _⟩ := hat 0 (by decide)
  simp only [Nat.zero_mul, Nat.add_zero] at c0 c1 c2
  have hbs' : BandSl _ A' n' [⟨0, 500, 700⟩] := hbs
  have KC := Lib.hid (bcheck_c [⟨0, 500, 700⟩] A' n' c' _ hbs' 0 (by unfold Hid; exact T0_bands.symm))
  clear KB hb1 hv hC hat hbs hbs' c0 c1
  go_wp2_with fail
  refine KC.out.mono ?_
  rintro e w2 ⟨rfl, hb2⟩
  have HB2 := Lib.hid (bT HB1.out hb2)
  clear KC hb2 c2
  by_cases h60 : 60 < nm.size
  · have v : decide ((60 : Int) < (nm.size : Int)) = true := by simp; omega
    clear h60
    go_wp2_with fail
    go_ret
    exact ⟨rfl, HB2.out⟩
  have v : decide ((60 : Int) < (nm.size : Int)) = false := by simp; omega
  have HZ := Lib.hid (Blk.mk w2 38 #[.string ⟨#[]⟩, .string ⟨#[100, 111, 119, 110]⟩, .string ⟨#[117, 112]⟩, .string ⟨#[105, 110, 119, 97, 114, 100]⟩, .string ⟨#[104, 97, 108, 102, 117, 112]⟩, .string ⟨#[104, 97, 108, 102, 101, 118, 101, 110]⟩, .string ⟨#[104, 97, 108, 102, 100, 111, 119, 110]⟩])
  have HB3 := Lib.hid (bA HB2.out (.cells #[.string ⟨#[]⟩, .string ⟨#[100, 111, 119, 110]⟩, .string ⟨#[117, 112]⟩, .string ⟨#[105, 110, 119, 97, 114, 100]⟩, .string ⟨#[104, 97, 108, 102, 117, 112]⟩, .string ⟨#[104, 97, 108, 102, 101, 118, 101, 110]⟩, .string ⟨#[104, 97, 108, 102, 100, 111, 119, 110]⟩] 38))
  have KMo : Hid (∀ W, TabS W → Calls Tryz.prog 17 #[.string nm] W fun e w' => e = .returned (.tuple #[.int .i64 (modeV nm), .int .i64 (modeE nm)]) ∧ Below W.heap.size W w') := fun W h => tmode_c nm W h
  have KN : Hid (∀ W, TabS W → Calls Tryz.prog 18 #[.int .i64 mode] W fun e w' => e = .returned (.string (modeN mode)) ∧ Below W.heap.size W w') := fun W h => tmodeName_c mode W h
  have HGM := Lib.hid (gotN_mode nm)
  have HVE : Hid ((modeV nm = 0 ∧ modeE nm = 5) ∨ (0 < modeV nm ∧ modeE nm = 0)) := by
    unfold Hid modeV modeE
    by_cases h : modeI nm < 0
    · rw [if_pos h, if_pos h]; exact Or.inl ⟨rfl, rfl⟩
    · rw [if_neg h, if_neg h]; exact Or.inr ⟨by omega, rfl⟩
  by_cases g1 : 0 < mode
  case neg =>
    have v1 : decide (0 < mode) = false := by simpa using g1
    rw [show modeN mode = ⟨#[]⟩ by unfold modeN; rw [modeB_not.2 (by omega)]; rfl] at KN
    clear g1
    go_wp2_with fail
    go_loopw [9, 43] (fun g i wr => ∃ j : Nat, j ≤ 7 ∧ i = .int .i64 j ∧ g = .int .i64 (gotN nm j) ∧ Below w.heap.size w wr) (fun _ i _ => 7 - (intOf i).toNat)
    case atStart => exact ⟨0, Nat.zero_le _, rfl, rfl, HB3.out⟩
    case round =>
      obtain ⟨j, hj', rfl, rfl, hbl⟩ := hrel
      by_cases hj : j < 7
      · have ii := nm_index j hj
        have HS : Hid (gotN nm (j + 1) = if 0 < j ∧ nms7 j = nm then (j : Int) else gotN nm j) := rfl
        generalize nms7 j = sj at *
        generalize gotN nm j = gj at *
        by_cases h0 : 0 < j
        · have v0 : decide ((0 : Int) < (j : Int)) = true := by simp; omega
          have v00 : decide (0 < j) = true := by simpa using h0
          by_cases hs : sj = nm
          · have HS2 : Hid (gotN nm (j + 1) = j) := HS.out.trans (if_pos ⟨h0, hs⟩)
            clear HS
            subst hs
            go_wp2_with fail
            go_roundw
            case rel => exact ⟨j + 1, by omega, by go_num, by rw [HS2.out], hbl⟩
            case measure => simp [intOf]; omega
          · have v1 := str_neqk hs
            have HS2 : Hid (gotN nm (j + 1) = gj) := HS.out.trans (if_neg (fun h => hs h.2))
            clear hs HS
            go_wp2_with fail
            go_roundw
            case rel => exact ⟨j + 1, by omega, by go_num, by rw [HS2.out], hbl⟩
            case measure => simp [intOf]; omega
        · have v0 : decide ((0 : Int) < (j : Int)) = false := by simp; omega
          have v00 : decide (0 < j) = false := by simpa using h0
          have HS2 : Hid (gotN nm (j + 1) = gj) := HS.out.trans (if_neg (fun h => h0 h.1))
          clear h0 HS
          go_wp2_with fail
          go_roundw
          case rel => exact ⟨j + 1, by omega, by go_num, by rw [HS2.out], hbl⟩
          case measure => simp [intOf]; omega
      obtain rfl : j = 7 := by omega
      have hgm := HGM.out
      have HBL := Lib.hid hbl
      rw [hgm]
      have hve := HVE.out
      generalize modeV nm = mv at *
      generalize modeE nm = me at *
      clear hgm HGM HVE hbl hj hj'
      go_wp2_with fail
      refine (KMo.out _ (HT.out.t HBL.out)).mono ?_
      rintro e w4 ⟨rfl, hb4⟩
      have HB4 := Lib.hid (bT HBL.out hb4)
      clear hb4 KMo
      rcases hve with ⟨rfl, rfl⟩ | ⟨h1, rfl⟩
      · go_wp2_with fail
        refine (KN.out _ (HT.out.t HB4.out)).mono ?_
        rintro e w5 ⟨rfl, hb5⟩
        have HB5 := Lib.hid (bT HB4.out hb5)
        clear hb5 KN
        go_wp2_with fail
        go_ret
        exact ⟨rfl, HB5.out⟩
      · have v5 : decide (0 < mv) = true := by simpa using h1
        clear h1
        go_wp2_with fail
        refine (KN.out _ (HT.out.t HB4.out)).mono ?_
        rintro e w5 ⟨rfl, hb5⟩
        have HB5 := Lib.hid (bT HB4.out hb5)
        clear hb5 KN
        go_wp2_with fail
        go_ret
        exact ⟨rfl, HB5.out⟩
  have v1 : decide (0 < mode) = true := by simpa using g1
  by_cases g2 : mode < 7
  case neg =>
    have v2 : decide (mode < 7) = false := by simpa using g2
    rw [show modeN mode = ⟨#[]⟩ by unfold modeN; rw [modeB_not.2 (by omega)]; rfl] at KN
    clear g1 g2
    go_wp2_with fail
    go_loopw [9, 43] (fun g i wr => ∃ j : Nat, j ≤ 7 ∧ i = .int .i64 j ∧ g = .int .i64 (gotN nm j) ∧ Below w.heap.size w wr) (fun _ i _ => 7 - (intOf i).toNat)
    case atStart => exact ⟨0, Nat.zero_le _, rfl, rfl, HB3.out⟩
    case round =>
      obtain ⟨j, hj', rfl, rfl, hbl⟩ := hrel
      by_cases hj : j < 7
      · have ii := nm_index j hj
        have HS : Hid (gotN nm (j + 1) = if 0 < j ∧ nms7 j = nm then (j : Int) else gotN nm j) := rfl
        generalize nms7 j = sj at *
        generalize gotN nm j = gj at *
        by_cases h0 : 0 < j
        · have v0 : decide ((0 : Int) < (j : Int)) = true := by simp; omega
          have v00 : decide (0 < j) = true := by simpa using h0
          by_cases hs : sj = nm
          · have HS2 : Hid (gotN nm (j + 1) = j) := HS.out.trans (if_pos ⟨h0, hs⟩)
            clear HS
            subst hs
            go_wp2_with fail
            go_roundw
            case rel => exact ⟨j + 1, by omega, by go_num, by rw [HS2.out], hbl⟩
            case measure => simp [intOf]; omega
          · have v1 := str_neqk hs
            have HS2 : Hid (gotN nm (j + 1) = gj) := HS.out.trans (if_neg (fun h => hs h.2))
            clear hs HS
            go_wp2_with fail
            go_roundw
            case rel => exact ⟨j + 1, by omega, by go_num, by rw [HS2.out], hbl⟩
            case measure => simp [intOf]; omega
        · have v0 : decide ((0 : Int) < (j : Int)) = false := by simp; omega
          have v00 : decide (0 < j) = false := by simpa using h0
          have HS2 : Hid (gotN nm (j + 1) = gj) := HS.out.trans (if_neg (fun h => h0 h.1))
          clear h0 HS
          go_wp2_with fail
          go_roundw
          case rel => exact ⟨j + 1, by omega, by go_num, by rw [HS2.out], hbl⟩
          case measure => simp [intOf]; omega
      obtain rfl : j = 7 := by omega
      have hgm := HGM.out
      have HBL := Lib.hid hbl
      rw [hgm]
      have hve := HVE.out
      generalize modeV nm = mv at *
      generalize modeE nm = me at *
      clear hgm HGM HVE hbl hj hj'
      go_wp2_with fail
      refine (KMo.out _ (HT.out.t HBL.out)).mono ?_
      rintro e w4 ⟨rfl, hb4⟩
      have HB4 := Lib.hid (bT HBL.out hb4)
      clear hb4 KMo
      rcases hve with ⟨rfl, rfl⟩ | ⟨h1, rfl⟩
      · go_wp2_with fail
        refine (KN.out _ (HT.out.t HB4.out)).mono ?_
        rintro e w5 ⟨rfl, hb5⟩
        have HB5 := Lib.hid (bT HB4.out hb5)
        clear hb5 KN
        go_wp2_with fail
        go_ret
        exact ⟨rfl, HB5.out⟩
      · have v5 : decide (0 < mv) = true := by simpa using h1
        clear h1
        go_wp2_with fail
        refine (KN.out _ (HT.out.t HB4.out)).mono ?_
        rintro e w5 ⟨rfl, hb5⟩
        have HB5 := Lib.hid (bT HB4.out hb5)
        clear hb5 KN
        go_wp2_with fail
        go_ret
        exact ⟨rfl, HB5.out⟩
  have v2 : decide (mode < 7) = true := by simpa using g2
  obtain ⟨i, rfl⟩ := Int.eq_ofNat_of_zero_le (show 0 ≤ mode by omega)
  have q := (HZ.out.cell i).trans (nm_cell i (by omega))
  rw [nm_mode i (by omega) (by omega)] at q
  generalize modeN (i : Int) = mn at *
  have s0 : (0 : Int) ≤ (i : Int) := by omega
  have s2 : ((i : Int)).toNat = i := by omega
  go_wp2_with fail
  go_loopw [9, 43] (fun g i wr => ∃ j : Nat, j ≤ 7 ∧ i = .int .i64 j ∧ g = .int .i64 (gotN nm j) ∧ Below w.heap.size w wr) (fun _ i _ => 7 - (intOf i).toNat)
  case atStart => exact ⟨0, Nat.zero_le _, rfl, rfl, HB3.out⟩
  case round =>
    obtain ⟨j, hj', rfl, rfl, hbl⟩ := hrel
    by_cases hj : j < 7
    · have ii := nm_index j hj
      have HS : Hid (gotN nm (j + 1) = if 0 < j ∧ nms7 j = nm then (j : Int) else gotN nm j) := rfl
      generalize nms7 j = sj at *
      generalize gotN nm j = gj at *
      by_cases h0 : 0 < j
      · have v0 : decide ((0 : Int) < (j : Int)) = true := by simp; omega
        have v00 : decide (0 < j) = true := by simpa using h0
        by_cases hs : sj = nm
        · have HS2 : Hid (gotN nm (j + 1) = j) := HS.out.trans (if_pos ⟨h0, hs⟩)
          clear HS
          subst hs
          go_wp2_with fail
          go_roundw
          case rel => exact ⟨j + 1, by omega, by go_num, by rw [HS2.out], hbl⟩
          case measure => simp [intOf]; omega
        · have v1 := str_neqk hs
          have HS2 : Hid (gotN nm (j + 1) = gj) := HS.out.trans (if_neg (fun h => hs h.2))
          clear hs HS
          go_wp2_with fail
          go_roundw
          case rel => exact ⟨j + 1, by omega, by go_num, by rw [HS2.out], hbl⟩
          case measure => simp [intOf]; omega
      · have v0 : decide ((0 : Int) < (j : Int)) = false := by simp; omega
        have v00 : decide (0 < j) = false := by simpa using h0
        have HS2 : Hid (gotN nm (j + 1) = gj) := HS.out.trans (if_neg (fun h => h0 h.1))
        clear h0 HS
        go_wp2_with fail
        go_roundw
        case rel => exact ⟨j + 1, by omega, by go_num, by rw [HS2.out], hbl⟩
        case measure => simp [intOf]; omega
    obtain rfl : j = 7 := by omega
    have hgm := HGM.out
    have HBL := Lib.hid hbl
    rw [hgm]
    have hve := HVE.out
    generalize modeV nm = mv at *
    generalize modeE nm = me at *
    clear hgm HGM HVE hbl hj hj'
    go_wp2_with fail
    refine (KMo.out _ (HT.out.t HBL.out)).mono ?_
    rintro e w4 ⟨rfl, hb4⟩
    have HB4 := Lib.hid (bT HBL.out hb4)
    clear hb4 KMo
    rcases hve with ⟨rfl, rfl⟩ | ⟨h1, rfl⟩
    · go_wp2_with fail
      refine (KN.out _ (HT.out.t HB4.out)).mono ?_
      rintro e w5 ⟨rfl, hb5⟩
      have HB5 := Lib.hid (bT HB4.out hb5)
      clear hb5 KN
      go_wp2_with fail
      go_ret
      exact ⟨rfl, HB5.out⟩
    · have v5 : decide (0 < mv) = true := by simpa using h1
      clear h1
      go_wp2_with fail
      refine (KN.out _ (HT.out.t HB4.out)).mono ?_
      rintro e w5 ⟨rfl, hb5⟩
      have HB5 := Lib.hid (bT HB4.out hb5)
      clear hb5 KN
      go_wp2_with fail
      go_ret
      exact ⟨rfl, HB5.out⟩
--%%
end Go.Proofs.YtbliblhipecgfaaGreatDoor
