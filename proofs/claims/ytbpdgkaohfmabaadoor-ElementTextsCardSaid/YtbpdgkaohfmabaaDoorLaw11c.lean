/-
  Layer 11's law ElementParses: its walk. Conditions as named.
-/
import Derived.Test.YtbpdgkaohfmabaaDoorLaw11
import Derived.Deep.QuietTactic
import Derived.BigQuiet
import Derived.Laws.StructEq
namespace Go.Proofs.YtbpdgkaohfmabaaDoor
set_option linter.unusedVariables false
open Go.RowKit
theorem xHas_nil (s : ByteArray) (h : s.size = 0) : xHas s = false := by
  have h1 : s.data.toList = [] := by
    have : s.data.toList.length = s.size := by simp
    exact List.length_eq_zero_iff.1 (by omega)
  unfold xHas Lib.hasPrefix; rw [h1]; rfl
theorem xHas_gB (s : ByteArray) (h : 0 < s.size) : xHas s = decide (gB s.data.toList 0 = 120) := by
  have hl : s.data.toList.length = s.size := by simp
  unfold xHas Lib.hasPrefix gB
  cases hs : s.data.toList with
  | nil => rw [hs] at hl; simp at hl; omega
  | cons x l =>
    rw [Bool.eq_iff_iff]
    simp [List.isPrefixOf, List.getD]
    constructor
    · rintro rfl; rfl
    · intro e; exact (UInt8.toNat_inj.1 (by show (120 : UInt8).toNat = _; simp; omega))
theorem xUn_ext (s : ByteArray) (h : 0 < s.size) (hx : xHas s = true) : xUn s = (s.extract 1 s.size).data.toList := by
  unfold xUn Lib.trimPrefix
  rw [show Lib.hasPrefix s.data.toList [120] = true from hx, if_pos rfl, Lib.extract_to_end]
  rfl
--%%
set_option maxRecDepth 100000 in
set_option maxHeartbeats 6400000 in
theorem elementParses_walk (A : Option Addr) (n c : Nat) (L : List ByteArray) (w : World) (hl : StSl w A n L) (hs : ∀ k, k < n → (L.getD k st0).size ≤ 9223372036854775807) (htab : Tab w) :
    Calls Tryd.prog 4 #[.slice A n c] w fun e w' => e = .returned (.bool true) ∧ Below w.heap.size w w' := by
  have HT := Lib.hid htab
  have HL := Lib.hid hl
  have HSZ := Lib.hid hs
  have hn9 := hl.2.1
  clear htab hl hs
  by_cases hn20 : 20 < n
  · have v1 : decide ((20 : Int) < (n : Int)) = true := by simp; omega
    go_enter Tryd.func4, Tryd.ntmps4
    go_wp2_with fail
    refine (worths_c _ HT.out).mono ?_
    rintro e w1 ⟨rfl, hb1⟩
    go_wp2_with fail
    go_ret
    exact ⟨rfl, hb1⟩
  have v1 : decide ((20 : Int) < (n : Int)) = false := by simp; omega
  go_enter Tryd.func4, Tryd.ntmps4
  go_wp2_with fail
  refine (worths_c _ HT.out).mono ?_
  rintro e w1 ⟨rfl, hb1⟩
  go_wp2_with fail
  go_loop [20] (fun i => ∃ k : Nat, k ≤ n ∧ i = .int .i64 k) (fun i => n - (intOf i).toNat)
  case atStart => exact ⟨0, Nat.zero_le _, rfl⟩
  case round =>
    obtain ⟨k, hk', rfl⟩ := hrel
    by_cases hk : k < n
    · obtain ⟨b, off, rfl, hlt, hat⟩ := (HL.out.below hb1).2.2 (by omega)
      have c0 : w1.cell? ⟨b, off + k, none⟩ = some (.string (L.getD k st0)) := by
        have := hat k hk 0 _ rfl
        simpa using this
      have hz := HSZ.out k hk
      generalize L.getD k st0 = s at *
      clear hat
      by_cases h100 : 100 < s.size
      · have v2 : decide ((100 : Int) < (s.size : Int)) = true := by simp; omega
        go_wp2_with fail
        go_ret
        exact ⟨rfl, hb1⟩
      · have v2 : decide ((100 : Int) < (s.size : Int)) = false := by simp; omega
        go_wp2_with fail
        go_round
        case rel => exact ⟨k + 1, by omega, by go_num⟩
        case measure => simp [intOf]; omega
    obtain rfl : k = n := by omega
    clear hk hk'
    have zero : ∀ x : Int, x ≠ 0 → epE k (L.getD 0 st0) (L.getD 1 st0) (L.getD 2 st0) = x → Hid (∀ W, StSl W A k L → Calls Tryd.prog 12 #[.slice A k c] W fun e w' => e = .returned (.tuple #[.agg #[.string ⟨#[]⟩, .int .i64 0, .int .i64 0], .int .i64 x]) ∧ Below W.heap.size W w') := fun x hx h => fun W hW =>
      eparse_c A k c L W hW HSZ.out el0 x (Lib.hid h.symm) (Lib.hid (by unfold epZ; rw [h, if_neg hx]))
    by_cases hn2 : k < 2
    · have v2 : decide ((k : Int) < 2) = true := by simp; omega
      have KP := zero 5 (by decide) (by unfold epE; rw [if_pos (by omega)])
      clear zero hn2
      go_wp2_with fail; (refine (KP.out _ (HL.out.below hb1)).mono ?_); (rintro e w2 ⟨rfl, hb2⟩); have hB2 := bT hb1 hb2
      have hB3 := bA hB2 (.cells #[.string ⟨#[]⟩, .int .i64 0, .int .i64 0] 23); have y3 := Blk.mk w2 23 #[.string ⟨#[]⟩, .int .i64 0, .int .i64 0]; obtain ⟨⟨q0, q1, q2⟩, f0, f1, f2⟩ := y3.a3f
      go_wp2_with fail
      go_ret
      exact ⟨rfl, hB3⟩
    have v2 : decide ((k : Int) < 2) = false := by simp; omega
    by_cases hn3 : 3 < k
    · have v3 : decide ((3 : Int) < (k : Int)) = true := by simp; omega
      have KP := zero 5 (by decide) (by unfold epE; rw [if_pos (by omega)])
      clear zero hn2 hn3
      go_wp2_with fail; (refine (KP.out _ (HL.out.below hb1)).mono ?_); (rintro e w2 ⟨rfl, hb2⟩); have hB2 := bT hb1 hb2
      have hB3 := bA hB2 (.cells #[.string ⟨#[]⟩, .int .i64 0, .int .i64 0] 23); have y3 := Blk.mk w2 23 #[.string ⟨#[]⟩, .int .i64 0, .int .i64 0]; obtain ⟨⟨q0, q1, q2⟩, f0, f1, f2⟩ := y3.a3f
      go_wp2_with fail
      go_ret
      exact ⟨rfl, hB3⟩
    have v3 : decide ((3 : Int) < (k : Int)) = false := by simp; omega
    obtain ⟨b, off, rfl, hlt, hat⟩ := HL.out.2.2 (by omega)
    have c0 : w.cell? ⟨b, off, none⟩ = some (.string (L.getD 0 st0)) := hat 0 (by omega) 0 _ rfl
    have c1 : w.cell? ⟨b, off + 1, none⟩ = some (.string (L.getD 1 st0)) := hat 1 (by omega) 0 _ rfl
    have c2 : k = 3 → w.cell? ⟨b, off + 2, none⟩ = some (.string (L.getD 2 st0)) := fun h => hat 2 (by omega) 0 _ rfl
    have z0 := HSZ.out 0 (by omega)
    have z1 := HSZ.out 1 (by omega)
    have z2 : k = 3 → (L.getD 2 st0).size ≤ 9223372036854775807 := fun h => HSZ.out 2 (by omega)
    have okk : epE k (L.getD 0 st0) (L.getD 1 st0) (L.getD 2 st0) = 0 → Hid (∀ W, StSl W (some ⟨b, off, none⟩) k L → Calls Tryd.prog 12 #[.slice (some ⟨b, off, none⟩) k c] W fun e w' => e = .returned (.tuple #[.agg #[.string (L.getD 0 st0), .int .i64 (parseV (L.getD 1 st0).data.toList), .int .i64 (if k = 2 then 100 else parseV (xUn (L.getD 2 st0)))], .int .i64 0]) ∧ Below W.heap.size W w') := fun h => fun W hW =>
      eparse_c _ k c L W hW HSZ.out ⟨L.getD 0 st0, parseV (L.getD 1 st0).data.toList, if k = 2 then 100 else parseV (xUn (L.getD 2 st0))⟩ 0 (Lib.hid h.symm) (Lib.hid (by unfold epZ; rw [if_pos h]))
    have KC : Hid (∀ W, Below w.heap.size w W → W.cell? ⟨b, off, none⟩ = some (.string (L.getD 0 st0)) ∧ W.cell? ⟨b, off + 1, none⟩ = some (.string (L.getD 1 st0))) := fun W hW => ⟨(hW.cell (p := ⟨b, _, none⟩) hlt).trans c0, (hW.cell (p := ⟨b, _, none⟩) hlt).trans c1⟩
    have KC3 : k = 3 → Hid (∀ W, Below w.heap.size w W → W.cell? ⟨b, off, none⟩ = some (.string (L.getD 0 st0)) ∧ W.cell? ⟨b, off + 1, none⟩ = some (.string (L.getD 1 st0)) ∧ W.cell? ⟨b, off + 2, none⟩ = some (.string (L.getD 2 st0))) := fun h W hW => ⟨(hW.cell (p := ⟨b, _, none⟩) hlt).trans c0, (hW.cell (p := ⟨b, _, none⟩) hlt).trans c1, (hW.cell (p := ⟨b, _, none⟩) hlt).trans (c2 h)⟩
    generalize L.getD 0 st0 = s0 at *
    generalize L.getD 1 st0 = s1 at *
    generalize L.getD 2 st0 = s2 at *
    clear hat c0 c1 c2
    have hn : k = 2 ∨ k = 3 := by omega
    have HNN := Lib.hid hn
    have kz0 : 0 < k := by omega
    have kz1 : 1 < k := by omega
    have kz2 : (1 : Int) < (k : Int) := by omega
    clear hn2 hn3
    cases hN : nameB s0.data.toList
    · have KP := zero 5 (by decide) (by simp [epE, hn, hN])
      have KN := Lib.hid (name_c s0 · z0 false hN.symm)
      clear zero okk hN hn KC3 z2
      go_wp2_with fail; (refine (KP.out _ (HL.out.below hb1)).mono ?_); (rintro e w2 ⟨rfl, hb2⟩); have hB2 := bT hb1 hb2
      have hB3 := bA hB2 (.cells #[.string ⟨#[]⟩, .int .i64 0, .int .i64 0] 23); have y3 := Blk.mk w2 23 #[.string ⟨#[]⟩, .int .i64 0, .int .i64 0]; obtain ⟨⟨q0, q1, q2⟩, f0, f1, f2⟩ := y3.a3f
      obtain ⟨d0, d1⟩ := KC.out _ hB3
      go_wp2_with fail
      refine (KN.out _).mono ?_
      rintro e w3 ⟨rfl, rfl⟩
      go_wp2_with fail
      go_ret
      exact ⟨rfl, hB3⟩
    have KN := Lib.hid (name_c s0 · z0 true hN.symm)
    have HS0 : Hid (¬ s0.toList = [] ∧ s0.toList.isEmpty = false) := str_facts s0 (fun h => by
      have h1 : s0.data.toList.length = s0.size := by simp
      unfold nameB at hN
      rw [h1, h] at hN
      simp at hN)
    have KM := Lib.hid (fun W => parse_c s1 W z1 _ _ (Lib.hid rfl) (Lib.hid rfl))
    by_cases hp : parseE s1.data.toList = 0
    case neg =>
      have KP := zero (parseE s1.data.toList) hp (by simp [epE, hn, hN, hp])
      generalize parseE s1.data.toList = pe at *
      generalize parseV s1.data.toList = pv at *
      have v4 : (pe != 0) = true := by simpa using hp
      clear zero okk hN hn KC3 z2 hp
      go_wp2_with fail; (refine (KP.out _ (HL.out.below hb1)).mono ?_); (rintro e w2 ⟨rfl, hb2⟩); have hB2 := bT hb1 hb2
      have hB3 := bA hB2 (.cells #[.string ⟨#[]⟩, .int .i64 0, .int .i64 0] 23); have y3 := Blk.mk w2 23 #[.string ⟨#[]⟩, .int .i64 0, .int .i64 0]; obtain ⟨⟨q0, q1, q2⟩, f0, f1, f2⟩ := y3.a3f
      obtain ⟨d0, d1⟩ := KC.out _ hB3
      go_wp2_with fail
      refine (KN.out _).mono ?_
      rintro e w3 ⟨rfl, rfl⟩
      go_wp2_with fail
      refine (KM.out _).mono ?_
      rintro e w4 ⟨rfl, hb4⟩
      go_wp2_with fail
      go_ret
      exact ⟨rfl, bT hB3 hb4⟩
    have HPE := Lib.hid hp
    have KM : Hid (∀ W, Calls Tryd.prog 14 #[.string s1] W fun e w' => e = .returned (.tuple #[.int .i64 (parseV s1.data.toList), .int .i64 0]) ∧ Below W.heap.size W w') := fun W => by rw [← hp]; exact KM.out W
    generalize hpv : parseV s1.data.toList = pv at *
    have HPV := Lib.hid hpv
    clear hpv
    by_cases hk2 : k = 2
    · have KP := okk (by simp [epE, hN, hp, hk2])
      rw [if_pos hk2] at KP
      subst hk2
      clear zero okk hN hn KC3 z2 hp
      go_wp2_with fail; (refine (KP.out _ (HL.out.below hb1)).mono ?_); (rintro e w2 ⟨rfl, hb2⟩); have hB2 := bT hb1 hb2
      have hB3 := bA hB2 (.cells #[.string s0, .int .i64 pv, .int .i64 100] 23)
      have y3 := Blk.mk w2 23 #[.string s0, .int .i64 pv, .int .i64 100]
      obtain ⟨⟨q0, q1, q2⟩, f0, f1, f2⟩ := y3.a3f
      obtain ⟨d0, d1⟩ := KC.out _ hB3
      go_wp2_with fail
      refine (KN.out _).mono ?_
      rintro e w3 ⟨rfl, rfl⟩
      go_wp2_with fail
      refine (KM.out _).mono ?_
      rintro e w4 ⟨rfl, hb4⟩
      have hB4 := bT hB3 hb4
      obtain ⟨⟨q0, q1, q2⟩, f0, f1, f2⟩ := (y3.t hb4).a3f
      clear d0 d1
      obtain ⟨d0, d1⟩ := KC.out _ hB4
      go_wp2_with fail
      go_quiet (fail)
      go_wp2_with fail
      go_ret
      exact ⟨rfl, bD hB4 _⟩
    obtain rfl : k = 3 := by omega
    have KC := KC3 rfl
    clear kz0 kz1 kz2 v2 v3
    have zu := z2 rfl
    have HX : s2.size = 0 → xHas s2 = false := xHas_nil s2
    have HXG : 0 < s2.size → xHas s2 = decide (gB s2.data.toList 0 = 120) := xHas_gB s2
    have HXU : 0 < s2.size → xHas s2 = true → xUn s2 = (s2.extract 1 s2.size).data.toList := xUn_ext s2
    by_cases hz : s2.size = 0
    · have hx := HX hz
      have KP := zero 5 (by decide) (by simp [epE, hN, hp, hx])
      obtain ⟨g1, g2⟩ := str_none s2 hz
      clear zero okk hN hn hp z2 hx HX HXG HXU KC3 hk2
      go_wp2_with fail; (refine (KP.out _ (HL.out.below hb1)).mono ?_); (rintro e w2 ⟨rfl, hb2⟩); have hB2 := bT hb1 hb2
      have hB3 := bA hB2 (.cells #[.string ⟨#[]⟩, .int .i64 0, .int .i64 0] 23); have y3 := Blk.mk w2 23 #[.string ⟨#[]⟩, .int .i64 0, .int .i64 0]; obtain ⟨⟨q0, q1, q2⟩, f0, f1, f2⟩ := y3.a3f
      obtain ⟨d0, d1, d2⟩ := KC.out _ hB3
      go_wp2_with fail
      refine (KN.out _).mono ?_
      rintro e w3 ⟨rfl, rfl⟩
      go_wp2_with fail
      refine (KM.out _).mono ?_
      rintro e w4 ⟨rfl, hb4⟩
      have hB4 := bT hB3 hb4
      clear d0 d1 d2
      obtain ⟨d0, d1, d2⟩ := KC.out _ hB4
      go_wp2_with fail
      go_ret
      exact ⟨rfl, hB4⟩
    have hz0 : 0 < s2.size := by omega
    obtain ⟨g1, g2⟩ := str_facts s2 hz
    have hbg := byte_gB s2 0 hz0
    have hgb := gB_bd s2.data.toList 0
    have hXG := HXG hz0
    have hXU := HXU hz0
    clear HX HXG HXU hz
    generalize gB s2.data.toList 0 = ch at *
    by_cases hch : ch = 120
    case neg =>
      have hx : xHas s2 = false := by rw [hXG]; simpa using hch
      have KP := zero 5 (by decide) (by simp [epE, hN, hp, hx])
      have v9 : (ch != 120) = true := by simpa using hch
      clear zero okk hN hn hp z2 hx hXG hXU KC3 hk2 hch
      go_wp2_with fail; (refine (KP.out _ (HL.out.below hb1)).mono ?_); (rintro e w2 ⟨rfl, hb2⟩); have hB2 := bT hb1 hb2
      have hB3 := bA hB2 (.cells #[.string ⟨#[]⟩, .int .i64 0, .int .i64 0] 23); have y3 := Blk.mk w2 23 #[.string ⟨#[]⟩, .int .i64 0, .int .i64 0]; obtain ⟨⟨q0, q1, q2⟩, f0, f1, f2⟩ := y3.a3f
      obtain ⟨d0, d1, d2⟩ := KC.out _ hB3
      go_wp2_with fail
      refine (KN.out _).mono ?_
      rintro e w3 ⟨rfl, rfl⟩
      go_wp2_with fail
      refine (KM.out _).mono ?_
      rintro e w4 ⟨rfl, hb4⟩
      have hB4 := bT hB3 hb4
      clear d0 d1 d2
      obtain ⟨d0, d1, d2⟩ := KC.out _ hB4
      go_wp2_with fail
      go_ret
      exact ⟨rfl, hB4⟩
    subst hch
    have hx : xHas s2 = true := by rw [hXG]; rfl
    have hxu := hXU hx
    have hex : (s2.extract 1 s2.size).size ≤ 9223372036854775807 := by rw [ByteArray.size_extract]; omega
    have HXT := Lib.hid (show xHas s2 = true from hx)
    rw [hxu] at okk
    have z1E : ∀ x : Int, epE 3 s0 s1 s2 = x ↔ (if parseE (s2.extract 1 s2.size).data.toList ≠ 0 then parseE (s2.extract 1 s2.size).data.toList else if parseV (s2.extract 1 s2.size).data.toList < 0 ∨ 100000 < parseV (s2.extract 1 s2.size).data.toList then 1 else 0) = x := fun x => by
      rw [← hxu]; simp [epE, hN, hp, hx]
    have KQ := Lib.hid (fun W => parse_c (s2.extract 1 s2.size) W hex _ _ (Lib.hid rfl) (Lib.hid rfl))
    clear hXG hXU hxu hx hex hk2 KC3 z2 hN hp hn
    generalize hs3 : s2.extract 1 s2.size = s3 at *
    generalize parseE s3.data.toList = ue at *
    generalize parseV s3.data.toList = uv at *
    have w120 : ((120 : Int) != 120) = false := by decide
    by_cases hu : ue = 0
    case neg =>
      have KP := zero ue hu ((z1E ue).2 (if_pos hu))
      have v9 : (ue != 0) = true := by simpa using hu
      clear zero okk z1E hu
      go_wp2_with fail; (refine (KP.out _ (HL.out.below hb1)).mono ?_); (rintro e w2 ⟨rfl, hb2⟩); have hB2 := bT hb1 hb2
      have hB3 := bA hB2 (.cells #[.string ⟨#[]⟩, .int .i64 0, .int .i64 0] 23); have y3 := Blk.mk w2 23 #[.string ⟨#[]⟩, .int .i64 0, .int .i64 0]; obtain ⟨⟨q0, q1, q2⟩, f0, f1, f2⟩ := y3.a3f
      obtain ⟨d0, d1, d2⟩ := KC.out _ hB3
      go_wp2_with fail
      refine (KN.out _).mono ?_
      rintro e w3 ⟨rfl, rfl⟩
      go_wp2_with fail
      refine (KM.out _).mono ?_
      rintro e w4 ⟨rfl, hb4⟩
      have hB4 := bT hB3 hb4
      clear d0 d1 d2
      obtain ⟨d0, d1, d2⟩ := KC.out _ hB4
      go_wp2_with fail
      refine (KQ.out _).mono ?_
      rintro e w5 ⟨rfl, hb5⟩
      go_wp2_with fail
      go_ret
      exact ⟨rfl, bT hB4 hb5⟩
    subst hu
    by_cases hlo : uv < 0 ∨ 100000 < uv
    · have KP := zero 1 (by decide) ((z1E 1).2 (by rw [if_neg (by simp), if_pos hlo]))
      clear zero okk z1E
      by_cases hl1 : uv < 0
      · have v9 : decide (uv < 0) = true := by simpa using hl1
        clear hlo hl1
        go_wp2_with fail; (refine (KP.out _ (HL.out.below hb1)).mono ?_); (rintro e w2 ⟨rfl, hb2⟩); have hB2 := bT hb1 hb2
        have hB3 := bA hB2 (.cells #[.string ⟨#[]⟩, .int .i64 0, .int .i64 0] 23); have y3 := Blk.mk w2 23 #[.string ⟨#[]⟩, .int .i64 0, .int .i64 0]; obtain ⟨⟨q0, q1, q2⟩, f0, f1, f2⟩ := y3.a3f
        obtain ⟨d0, d1, d2⟩ := KC.out _ hB3
        go_wp2_with fail
        refine (KN.out _).mono ?_
        rintro e w3 ⟨rfl, rfl⟩
        go_wp2_with fail
        refine (KM.out _).mono ?_
        rintro e w4 ⟨rfl, hb4⟩
        have hB4 := bT hB3 hb4
        clear d0 d1 d2
        obtain ⟨d0, d1, d2⟩ := KC.out _ hB4
        go_wp2_with fail
        refine (KQ.out _).mono ?_
        rintro e w5 ⟨rfl, hb5⟩
        go_wp2_with fail
        go_ret
        exact ⟨rfl, bT hB4 hb5⟩
      · have v9 : decide (uv < 0) = false := by simpa using hl1
        have v10 : decide (100000 < uv) = true := by simp; omega
        clear hlo hl1
        go_wp2_with fail; (refine (KP.out _ (HL.out.below hb1)).mono ?_); (rintro e w2 ⟨rfl, hb2⟩); have hB2 := bT hb1 hb2
        have hB3 := bA hB2 (.cells #[.string ⟨#[]⟩, .int .i64 0, .int .i64 0] 23); have y3 := Blk.mk w2 23 #[.string ⟨#[]⟩, .int .i64 0, .int .i64 0]; obtain ⟨⟨q0, q1, q2⟩, f0, f1, f2⟩ := y3.a3f
        obtain ⟨d0, d1, d2⟩ := KC.out _ hB3
        go_wp2_with fail
        refine (KN.out _).mono ?_
        rintro e w3 ⟨rfl, rfl⟩
        go_wp2_with fail
        refine (KM.out _).mono ?_
        rintro e w4 ⟨rfl, hb4⟩
        have hB4 := bT hB3 hb4
        clear d0 d1 d2
        obtain ⟨d0, d1, d2⟩ := KC.out _ hB4
        go_wp2_with fail
        refine (KQ.out _).mono ?_
        rintro e w5 ⟨rfl, hb5⟩
        go_wp2_with fail
        go_ret
        exact ⟨rfl, bT hB4 hb5⟩
    have KP := okk ((z1E 0).2 (by rw [if_neg (by simp), if_neg hlo]))
    rw [if_neg (by decide)] at KP
    have v9 : decide (uv < 0) = false := by simp; omega
    have v10 : decide (100000 < uv) = false := by simp; omega
    clear zero okk z1E hlo
    obtain ⟨g3, g4⟩ := HS0.out
    go_wp2_with fail; (refine (KP.out _ (HL.out.below hb1)).mono ?_); (rintro e w2 ⟨rfl, hb2⟩); have hB2 := bT hb1 hb2
    have hB3 := bA hB2 (.cells #[.string s0, .int .i64 pv, .int .i64 uv] 23)
    have y3 := Blk.mk w2 23 #[.string s0, .int .i64 pv, .int .i64 uv]
    obtain ⟨⟨q0, q1, q2⟩, f0, f1, f2⟩ := y3.a3f
    obtain ⟨d0, d1, d2⟩ := KC.out _ hB3
    go_wp2_with fail
    refine (KN.out _).mono ?_
    rintro e w3 ⟨rfl, rfl⟩
    go_wp2_with fail
    refine (KM.out _).mono ?_
    rintro e w4 ⟨rfl, hb4⟩
    have hB4 := bT hB3 hb4
    have y4 := y3.t hb4
    clear d0 d1 d2
    obtain ⟨d0, d1, d2⟩ := KC.out _ hB4
    go_wp2_with fail
    refine (KQ.out _).mono ?_
    rintro e w5 ⟨rfl, hb5⟩
    have hB5 := bT hB4 hb5
    obtain ⟨⟨q0, q1, q2⟩, f0, f1, f2⟩ := (y4.t hb5).a3f
    clear d0 d1 d2
    obtain ⟨d0, d1, d2⟩ := KC.out _ hB5
    go_wp2_with fail
    go_quiet (fail)
    go_wp2_with fail
    go_ret
    exact ⟨rfl, bD hB5 _⟩
--%%
end Go.Proofs.YtbpdgkaohfmabaaDoor
