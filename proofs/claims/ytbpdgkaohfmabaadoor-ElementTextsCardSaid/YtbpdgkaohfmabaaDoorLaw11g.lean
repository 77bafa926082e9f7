/-
  Layer 11's law ElementTexts: its walk. Conditions as named.
-/
import Derived.Test.YtbpdgkaohfmabaaDoorLaw11
import Derived.Test.YtbpdgkaohfmabaaDoorFieldP
import Derived.Test.YtbpdgkaohfmabaaDoorShelf
namespace Go.Proofs.YtbpdgkaohfmabaaDoor
set_option linter.unusedVariables false
open Go.RowKit
/-- the library's table of blanks, as the program lays it -/
def TabS (w : World) : Prop := Lib.TabIs Tryd.prog w "strings.asciiSpace" .u8 Lib.asciiSpaceTab
theorem TabS.t {w w' : World} (h : TabS w) (hb : Below w.heap.size w w') : TabS w' := by
  unfold TabS Lib.TabIs World.var? at *
  cases hg : Tryd.prog.globalNamed "strings.asciiSpace" with
  | none => simp [hg] at h
  | some g =>
    simp only [hg, Option.bind_some] at h ⊢
    have hlt : g < w.heap.size := by
      rcases Nat.lt_or_ge g w.heap.size with h' | h'
      · exact h'
      · rw [Array.getElem?_eq_none h'] at h; simp at h
    rw [hb.block g hlt]
    exact h
theorem el_words (k : ByteArray) (a u : Int) (hn : nameB k.data.toList = true) (ha : -100000000000 ≤ a ∧ a ≤ 100000000000) (hu : 0 ≤ u ∧ u ≤ 100000) :
    epE (elW k a u).length ((elW k a u).getD 0 st0) ((elW k a u).getD 1 st0) ((elW k a u).getD 2 st0) = 0 ∧ epZ (elW k a u).length ((elW k a u).getD 0 st0) ((elW k a u).getD 1 st0) ((elW k a u).getD 2 st0) = ⟨k, a, u⟩ := by
  have pa := parse_text a ha.1 ha.2
  have pu := parse_text u (by omega) (by omega)
  by_cases h : u = 100
  · have e1 : epE 2 k ⟨(textB a).toArray⟩ st0 = 0 := by unfold epE; rw [if_neg (by simp), if_neg (by simp [hn]), if_neg (by simp [pa.1]), if_pos rfl]
    unfold elW
    rw [if_pos h]
    refine ⟨e1, ?_⟩
    show epZ 2 k ⟨(textB a).toArray⟩ st0 = _
    unfold epZ
    rw [if_pos e1, if_pos rfl, h]
    simp [pa.2]
  · have hx : xHas ⟨(120 :: textB u).toArray⟩ = true := by unfold xHas Lib.hasPrefix; simp [List.isPrefixOf]
    have hxu : xUn ⟨(120 :: textB u).toArray⟩ = textB u := by unfold xUn Lib.trimPrefix Lib.hasPrefix; simp [List.isPrefixOf]
    have e1 : epE 3 k ⟨(textB a).toArray⟩ ⟨(120 :: textB u).toArray⟩ = 0 := by
      unfold epE
      rw [if_neg (by simp), if_neg (by simp [hn]), if_neg (by simp [pa.1]), if_neg (by decide), if_neg (by simp [hx]), hxu, if_neg (by simp [pu.1]), pu.2, if_neg (by omega)]
    unfold elW
    rw [if_neg h]
    refine ⟨e1, ?_⟩
    show epZ 3 k ⟨(textB a).toArray⟩ ⟨(120 :: textB u).toArray⟩ = _
    unfold epZ
    rw [if_pos e1, if_neg (by decide), hxu, pu.2]
    simp [pa.2]
theorem elE_zero {a u : Int} (h : elE a u = 0) : mrB a = true ∧ 0 ≤ u ∧ u ≤ 100000 := by
  unfold elE at h
  cases hm : mrB a with
  | false => rw [hm] at h; simp at h
  | true =>
    rw [hm] at h
    simp only [Bool.true_eq_false, if_false] at h
    split at h
    · cases h
    · exact ⟨rfl, by omega, by omega⟩
--%%
set_option maxRecDepth 100000 in
set_option maxHeartbeats 6400000 in
theorem elementTexts_walk (k : ByteArray) (a u : Int) (w : World) (hk : k.size ≤ 9223372036854775807) (htab : Tab w) (htab2 : TabS w) :
    Calls Tryd.prog 8 #[.agg #[.string k, .int .i64 a, .int .i64 u]] w fun e w' => e = .returned (.bool true) ∧ Below w.heap.size w w' := by
  have hb0 := below1 w (.cells #[.string k, .int .i64 a, .int .i64 u] 23)
  have y := Blk.mk w 23 #[.string k, .int .i64 a, .int .i64 u]
  have HT := Lib.hid (htab.t hb0)
  have HT2 := Lib.hid (htab2.t hb0)
  have KV := Lib.hid (fun W => evalue_c k a u W _ _ rfl rfl)
  clear htab htab2
  by_cases h0 : elE a u = 0
  case neg =>
    have v1 : (elE a u != 0) = true := by simpa using h0
    generalize elE a u = ee at *
    generalize elV a u = ev at *
    clear h0
    go_enter Tryd.func8, Tryd.ntmps8
    go_wp2_with fail
    refine (worths_c _ HT.out).mono ?_
    rintro e w1 ⟨rfl, hb1⟩
    have hB1 := bT hb0 hb1
    have y1 := y.t hb1
    have q0 := y1.cell 0
    have q1 := y1.cell 1
    have q2 := y1.cell 2
    go_wp2_with fail
    refine (KV.out _).mono ?_
    rintro e w2 ⟨rfl, hb2⟩
    clear q0 q1 q2
    go_wp2_with fail
    go_ret
    exact ⟨rfl, bT hB1 hb2⟩
  have hz := elE_zero h0
  rw [h0] at KV
  generalize elV a u = ev at *
  cases hn : nameB k.data.toList
  · have KN := Lib.hid (name_c k · hk false hn.symm)
    clear hn h0 hz
    go_enter Tryd.func8, Tryd.ntmps8
    go_wp2_with fail
    refine (worths_c _ HT.out).mono ?_
    rintro e w1 ⟨rfl, hb1⟩
    have hB1 := bT hb0 hb1
    have y1 := y.t hb1
    have q0 := y1.cell 0
    have q1 := y1.cell 1
    have q2 := y1.cell 2
    go_wp2_with fail
    refine (KV.out _).mono ?_
    rintro e w2 ⟨rfl, hb2⟩
    clear q0 q1 q2
    have q0 := (y1.t hb2).cell 0
    go_wp2_with fail
    refine (KN.out _).mono ?_
    rintro e w3 ⟨rfl, rfl⟩
    go_wp2_with fail
    go_ret
    exact ⟨rfl, bT hB1 hb2⟩
  have KN := Lib.hid (name_c k · hk true hn.symm)
  have hks : k.size ≤ 16 := by
    have h1 : k.data.toList.length = k.size := by simp
    have := (ink_name hn).2.2
    omega
  have hm := mr_iff.1 hz.1
  have hew := el_words k a u hn hm hz.2
  have hfe := fields_el k a u hn
  have KT : Hid (∀ W, Tab W → Calls Tryd.prog 23 #[.agg #[.string k, .int .i64 a, .int .i64 u]] W fun e w' => e = .returned (.string ⟨(elT k a u).toArray⟩) ∧ Below W.heap.size W w') := fun W h => etext_c k a u W (by omega) hm hz.2 h
  have hts : (elT k a u).length < 1000 := by
    have t1 := textB_len a hm.1 hm.2
    have t2 := textB_len u (by omega) (by omega)
    have h1 : k.data.toList.length = k.size := by simp
    unfold elT
    split <;> simp <;> omega
  have KF : Hid (∀ W, TabS W → Calls Tryd.prog 22 #[.string ⟨(elT k a u).toArray⟩] W fun e w' => e = .returned (.slice (some ⟨W.heap.size, 0, none⟩) (elW k a u).length (elW k a u).length) ∧ w' = W.alloc (.cells ((elW k a u).map Value.string).toArray 9)) := fun W h => by
    have h2 := Tryd.strings_Fields_laid ⟨(elT k a u).toArray⟩ W (by show (elT k a u).toArray.size < _; simp; omega) (ink_el k a u hn) h
    have hd : (⟨(elT k a u).toArray⟩ : ByteArray).data.toList = elT k a u := rfl
    rw [hd] at h2
    rw [← hfe]
    simpa [List.map_map, Function.comp_def] using h2
  have hll : (elW k a u).length ≤ 3 := by unfold elW; split <;> simp
  have hls : ∀ j, j < (elW k a u).length → ((elW k a u).getD j st0).size ≤ 9223372036854775807 := by
    have t1 := textB_len a hm.1 hm.2
    have t2 := textB_len u (by omega) (by omega)
    have s1 : (⟨(textB a).toArray⟩ : ByteArray).size ≤ 9223372036854775807 := by show (textB a).toArray.size ≤ _; simp; omega
    have s2 : (⟨(120 :: textB u).toArray⟩ : ByteArray).size ≤ 9223372036854775807 := by show (120 :: textB u).toArray.size ≤ _; simp; omega
    intro j hj
    rcases (by omega : j = 0 ∨ j = 1 ∨ j = 2) with rfl | rfl | rfl
    · exact hk
    · exact s1
    · unfold elW at hj ⊢
      by_cases hu : u = 100
      · rw [if_pos hu] at hj; simp at hj
      · rw [if_neg hu]; exact s2
  generalize elW k a u = L at *
  obtain ⟨n, hln⟩ : ∃ n, n = L.length := ⟨_, rfl⟩
  have KP : Hid (∀ (A : Option Addr) (c : Nat) W, StSl W A n L → Calls Tryd.prog 12 #[.slice A n c] W fun e w' => e = .returned (.tuple #[.agg #[.string k, .int .i64 a, .int .i64 u], .int .i64 0]) ∧ Below W.heap.size W w') := fun A c W h =>
    eparse_c A n c L W h (fun j hj => hls j (by omega)) ⟨k, a, u⟩ 0 (Lib.hid (by rw [hln]; exact hew.1.symm)) (Lib.hid (by rw [hln]; exact hew.2.symm))
  have HSL : Hid (∀ W : World, StSl (W.alloc (.cells (L.map Value.string).toArray 9)) (some ⟨W.heap.size, 0, none⟩) n L) := fun W => by
    refine ⟨hln, by omega, fun _ => ⟨W.heap.size, 0, rfl, by simp, fun j hj => ?_⟩⟩
    intro i v hv
    have hi : i < 1 := (List.getElem?_eq_some_iff.1 hv).1
    obtain rfl : i = 0 := by omega
    rw [cell_alloc, if_pos rfl]
    injection hv with hv; subst hv
    have hj' : j < L.length := by omega
    simp [List.getD, List.getElem?_eq_getElem hj']
  rw [← hln] at KF
  clear hew hfe hts hll hls hn h0 hz hm hln hks
  generalize elT k a u = et at *
  go_enter Tryd.func8, Tryd.ntmps8
  go_wp2_with fail
  refine (worths_c _ HT.out).mono ?_
  rintro e w1 ⟨rfl, hb1⟩
  have hB1 := bT hb0 hb1
  have y1 := y.t hb1
  have q0 := y1.cell 0
  have q1 := y1.cell 1
  have q2 := y1.cell 2
  go_wp2_with fail
  refine (KV.out _).mono ?_
  rintro e w2 ⟨rfl, hb2⟩
  clear q0 q1 q2
  have y2 := y1.t hb2
  have hB2 := bT hB1 hb2
  have q0 := y2.cell 0
  have q1 := y2.cell 1
  have q2 := y2.cell 2
  have HT3 := Lib.hid (HT.out.t (bT hb1 hb2))
  go_wp2_with fail
  refine (KN.out _).mono ?_
  rintro e w3 ⟨rfl, rfl⟩
  go_wp2_with fail
  refine (KT.out _ HT3.out).mono ?_
  rintro e w4 ⟨rfl, hb4⟩
  have hB4 := bT hB2 hb4
  have HT4 := Lib.hid (HT2.out.t (bT (bT hb1 hb2) hb4))
  have y4 := y2.t hb4
  clear q0 q1 q2
  go_wp2_with fail
  refine (KF.out _ HT4.out).mono ?_
  rintro e w5 ⟨rfl, rfl⟩
  have hB5 := bA hB4 (.cells (L.map Value.string).toArray 9)
  have y5 := y4.alloc (.cells (L.map Value.string).toArray 9)
  go_wp2_with fail
  refine (KP.out _ _ _ (HSL.out _)).mono ?_
  rintro e w6 ⟨rfl, hb6⟩
  have hB6 := bA (bT hB5 hb6) (.cells #[.string k, .int .i64 a, .int .i64 u] 23)
  have y6 := (y5.t hb6).alloc (.cells #[.string k, .int .i64 a, .int .i64 u] 23)
  have x6 := Blk.mk w6 23 #[.string k, .int .i64 a, .int .i64 u]
  have q0 := y6.cell 0
  have q1 := y6.cell 1
  have q2 := y6.cell 2
  have p0 := x6.cell 0
  have p1 := x6.cell 1
  have p2 := x6.cell 2
  go_wp2_with fail
  go_ret
  exact ⟨rfl, hB6⟩
--%%
end Go.Proofs.YtbpdgkaohfmabaaDoor
