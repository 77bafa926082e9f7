/-
  Contract of element.Parse. Conditions as named.
-/
import Derived.Test.YtbpdgkaohfmabaaDoorName
import Derived.Test.YtbpdgkaohfmabaaDoorParse2
import Derived.Test.YtbpdgkaohfmabaaDoorElemT
import Derived.Test.YtbpdgkaohfmabaaDoorShelf
namespace Go.Proofs.YtbpdgkaohfmabaaDoor
set_option linter.unusedVariables false
open Go.RowKit
def st0 : ByteArray := ⟨#[]⟩
def stC (s : ByteArray) : List Value := [.string s]
abbrev StSl := RowSl stC 1 st0
def xUn (s : ByteArray) : List UInt8 := Lib.trimPrefix s.data.toList [120]
def xHas (s : ByteArray) : Bool := Lib.hasPrefix s.data.toList [120]
/-- why words are no element -/
def epE (n : Nat) (s0 s1 s2 : ByteArray) : Int :=
  if ¬ (n = 2 ∨ n = 3) then 5
  else if nameB s0.data.toList = false then 5
  else if parseE s1.data.toList ≠ 0 then parseE s1.data.toList
  else if n = 2 then 0
  else if xHas s2 = false then 5
  else if parseE (xUn s2) ≠ 0 then parseE (xUn s2)
  else if parseV (xUn s2) < 0 ∨ 100000 < parseV (xUn s2) then 1
  else 0
/-- the element that words are -/
def epZ (n : Nat) (s0 s1 s2 : ByteArray) : El :=
  if epE n s0 s1 s2 = 0 then ⟨s0, parseV s1.data.toList, if n = 2 then 100 else parseV (xUn s2)⟩ else el0
--%%
section
variable {w : World} {g : Nat} {t : TypeId} {a b c : Value}
theorem Blk.a3f (h : Blk w g t #[a, b, c]) : (w.cell? ⟨g, 0, none⟩ = some a ∧ w.cell? ⟨g, 1, none⟩ = some b ∧ w.cell? ⟨g, 2, none⟩ = some c) ∧
    w.frozen? ⟨g, 0, none⟩ = false ∧ w.frozen? ⟨g, 1, none⟩ = false ∧ w.frozen? ⟨g, 2, none⟩ = false :=
  ⟨⟨h.cell 0, h.cell 1, h.cell 2⟩, h.free 0, h.free 1, h.free 2⟩
end
theorem ep_n (A : Option Addr) (n c : Nat) (w : World) (h2 : n ≠ 2) (h3 : n ≠ 3) :
    Calls Tryd.prog 12 #[.slice A n c] w fun e w' => e = .returned (.tuple #[.agg #[.string ⟨#[]⟩, .int .i64 0, .int .i64 0], .int .i64 5]) ∧ Below w.heap.size w w' := by
  have v2 : ((n : Int) != 2) = true := by simp; omega
  have v3 : ((n : Int) != 3) = true := by simp; omega
  have hb0 := below1 w (.cells #[.string ⟨#[]⟩, .int .i64 0, .int .i64 0] 23)
  have y := Blk.mk w 23 #[.string ⟨#[]⟩, .int .i64 0, .int .i64 0]
  obtain ⟨⟨q0, q1, q2⟩, f0, f1, f2⟩ := y.a3f
  clear h2 h3
  go_enter Tryd.func12, Tryd.ntmps12
  go_wp2_with fail
  refine bodyPost_ret (v := .tuple #[.agg #[.string ⟨#[]⟩, .int .i64 0, .int .i64 0], .int .i64 5]) (by simp [results, Tryd.results12, go_sem, q0, q1, q2]) rfl ⟨rfl, ?_⟩
  exact hb0
--%%
theorem ep2_name (b off c : Nat) (s0 s1 : ByteArray) (w : World) (hlt : b < w.heap.size) (c0 : w.cell? ⟨b, off, none⟩ = some (.string s0)) (c1 : w.cell? ⟨b, off + 1, none⟩ = some (.string s1)) (hs0 : s0.size ≤ 9223372036854775807) (hs1 : s1.size ≤ 9223372036854775807) (hnm : Hid (false = nameB s0.data.toList)) :
    Calls Tryd.prog 12 #[.slice (some ⟨b, off, none⟩) 2 c] w fun e w' => e = .returned (.tuple #[.agg #[.string ⟨#[]⟩, .int .i64 0, .int .i64 0], .int .i64 5]) ∧ Below w.heap.size w w' := by
  have hb0 := below1 w (.cells #[.string ⟨#[]⟩, .int .i64 0, .int .i64 0] 23)
  have y := Blk.mk w 23 #[.string ⟨#[]⟩, .int .i64 0, .int .i64 0]
  have d0 := (hb0.cell (p := ⟨b, _, none⟩) hlt).trans c0
  have d1 := (hb0.cell (p := ⟨b, _, none⟩) hlt).trans c1
  have KN := Lib.hid (name_c s0 · hs0 false hnm)
  obtain ⟨⟨q0, q1, q2⟩, f0, f1, f2⟩ := y.a3f
  clear hs0 hnm
  go_enter Tryd.func12, Tryd.ntmps12
  go_wp2_with fail
  refine (KN.out _).mono ?_
  rintro e w1 ⟨rfl, rfl⟩
  go_wp2_with fail
  refine bodyPost_ret (v := .tuple #[.agg #[.string ⟨#[]⟩, .int .i64 0, .int .i64 0], .int .i64 5]) (by simp [results, Tryd.results12, go_sem, q0, q1, q2]) rfl ⟨rfl, ?_⟩
  exact hb0

theorem ep2_parse (b off c : Nat) (s0 s1 : ByteArray) (w : World) (hlt : b < w.heap.size) (c0 : w.cell? ⟨b, off, none⟩ = some (.string s0)) (c1 : w.cell? ⟨b, off + 1, none⟩ = some (.string s1)) (hs0 : s0.size ≤ 9223372036854775807) (hs1 : s1.size ≤ 9223372036854775807) (hnm : Hid (true = nameB s0.data.toList)) (pv pe : Int) (hpv : Hid (pv = parseV s1.data.toList)) (hpe0 : Hid (pe = parseE s1.data.toList)) (hpe : pe ≠ 0) :
    Calls Tryd.prog 12 #[.slice (some ⟨b, off, none⟩) 2 c] w fun e w' => e = .returned (.tuple #[.agg #[.string ⟨#[]⟩, .int .i64 0, .int .i64 0], .int .i64 pe]) ∧ Below w.heap.size w w' := by
  have hb0 := below1 w (.cells #[.string ⟨#[]⟩, .int .i64 0, .int .i64 0] 23)
  have y := Blk.mk w 23 #[.string ⟨#[]⟩, .int .i64 0, .int .i64 0]
  have d0 := (hb0.cell (p := ⟨b, _, none⟩) hlt).trans c0
  have d1 := (hb0.cell (p := ⟨b, _, none⟩) hlt).trans c1
  have KN := Lib.hid (name_c s0 · hs0 true hnm)
  clear hs0 hnm
  have vpe : (pe != 0) = true := by simpa using hpe
  clear hpe
  have KP := Lib.hid (parse_c s1 · hs1 pv pe hpv hpe0)
  clear hpv hpe0 hs1
  go_enter Tryd.func12, Tryd.ntmps12
  go_wp2_with fail
  refine (KN.out _).mono ?_
  rintro e w1 ⟨rfl, rfl⟩
  go_wp2_with fail
  refine (KP.out _).mono ?_
  rintro e w2 ⟨rfl, hb2⟩
  have hb3 := bT hb0 hb2
  have y2 := y.t hb2
  obtain ⟨⟨q0, q1, q2⟩, f0, f1, f2⟩ := y2.a3f
  go_wp2_with fail
  refine bodyPost_ret (v := .tuple #[.agg #[.string ⟨#[]⟩, .int .i64 0, .int .i64 0], .int .i64 pe]) (by simp [results, Tryd.results12, go_sem, q0, q1, q2]) rfl ⟨rfl, ?_⟩
  exact bS (bS (bS hb3 (Nat.le_refl _) _) (Nat.le_refl _) _) (Nat.le_refl _) _

theorem ep3_name (b off c : Nat) (s0 s1 s2 : ByteArray) (w : World) (hlt : b < w.heap.size) (c0 : w.cell? ⟨b, off, none⟩ = some (.string s0)) (c1 : w.cell? ⟨b, off + 1, none⟩ = some (.string s1)) (c2 : w.cell? ⟨b, off + 2, none⟩ = some (.string s2)) (hs0 : s0.size ≤ 9223372036854775807) (hs1 : s1.size ≤ 9223372036854775807) (hnm : Hid (false = nameB s0.data.toList)) :
    Calls Tryd.prog 12 #[.slice (some ⟨b, off, none⟩) 3 c] w fun e w' => e = .returned (.tuple #[.agg #[.string ⟨#[]⟩, .int .i64 0, .int .i64 0], .int .i64 5]) ∧ Below w.heap.size w w' := by
  have hb0 := below1 w (.cells #[.string ⟨#[]⟩, .int .i64 0, .int .i64 0] 23)
  have y := Blk.mk w 23 #[.string ⟨#[]⟩, .int .i64 0, .int .i64 0]
  have d0 := (hb0.cell (p := ⟨b, _, none⟩) hlt).trans c0
  have d1 := (hb0.cell (p := ⟨b, _, none⟩) hlt).trans c1
  have d2 := (hb0.cell (p := ⟨b, _, none⟩) hlt).trans c2
  have KN := Lib.hid (name_c s0 · hs0 false hnm)
  obtain ⟨⟨q0, q1, q2⟩, f0, f1, f2⟩ := y.a3f
  clear hs0 hnm
  go_enter Tryd.func12, Tryd.ntmps12
  go_wp2_with fail
  refine (KN.out _).mono ?_
  rintro e w1 ⟨rfl, rfl⟩
  go_wp2_with fail
  refine bodyPost_ret (v := .tuple #[.agg #[.string ⟨#[]⟩, .int .i64 0, .int .i64 0], .int .i64 5]) (by simp [results, Tryd.results12, go_sem, q0, q1, q2]) rfl ⟨rfl, ?_⟩
  exact hb0

theorem ep3_parse (b off c : Nat) (s0 s1 s2 : ByteArray) (w : World) (hlt : b < w.heap.size) (c0 : w.cell? ⟨b, off, none⟩ = some (.string s0)) (c1 : w.cell? ⟨b, off + 1, none⟩ = some (.string s1)) (c2 : w.cell? ⟨b, off + 2, none⟩ = some (.string s2)) (hs0 : s0.size ≤ 9223372036854775807) (hs1 : s1.size ≤ 9223372036854775807) (hnm : Hid (true = nameB s0.data.toList)) (pv pe : Int) (hpv : Hid (pv = parseV s1.data.toList)) (hpe0 : Hid (pe = parseE s1.data.toList)) (hpe : pe ≠ 0) :
    Calls Tryd.prog 12 #[.slice (some ⟨b, off, none⟩) 3 c] w fun e w' => e = .returned (.tuple #[.agg #[.string ⟨#[]⟩, .int .i64 0, .int .i64 0], .int .i64 pe]) ∧ Below w.heap.size w w' := by
  have hb0 := below1 w (.cells #[.string ⟨#[]⟩, .int .i64 0, .int .i64 0] 23)
  have y := Blk.mk w 23 #[.string ⟨#[]⟩, .int .i64 0, .int .i64 0]
  have d0 := (hb0.cell (p := ⟨b, _, none⟩) hlt).trans c0
  have d1 := (hb0.cell (p := ⟨b, _, none⟩) hlt).trans c1
  have d2 := (hb0.cell (p := ⟨b, _, none⟩) hlt).trans c2
  have KN := Lib.hid (name_c s0 · hs0 true hnm)
  clear hs0 hnm
  have vpe : (pe != 0) = true := by simpa using hpe
  clear hpe
  have KP := Lib.hid (parse_c s1 · hs1 pv pe hpv hpe0)
  clear hpv hpe0 hs1
  go_enter Tryd.func12, Tryd.ntmps12
  go_wp2_with fail
  refine (KN.out _).mono ?_
  rintro e w1 ⟨rfl, rfl⟩
  go_wp2_with fail
  refine (KP.out _).mono ?_
  rintro e w2 ⟨rfl, hb2⟩
  have hb3 := bT hb0 hb2
  have y2 := y.t hb2
  obtain ⟨⟨q0, q1, q2⟩, f0, f1, f2⟩ := y2.a3f
  go_wp2_with fail
  refine bodyPost_ret (v := .tuple #[.agg #[.string ⟨#[]⟩, .int .i64 0, .int .i64 0], .int .i64 pe]) (by simp [results, Tryd.results12, go_sem, q0, q1, q2]) rfl ⟨rfl, ?_⟩
  exact bS (bS (bS hb3 (Nat.le_refl _) _) (Nat.le_refl _) _) (Nat.le_refl _) _

theorem ep2_ok (b off c : Nat) (s0 s1 : ByteArray) (w : World) (hlt : b < w.heap.size) (c0 : w.cell? ⟨b, off, none⟩ = some (.string s0)) (c1 : w.cell? ⟨b, off + 1, none⟩ = some (.string s1)) (hs0 : s0.size ≤ 9223372036854775807) (hs1 : s1.size ≤ 9223372036854775807) (hnm : Hid (true = nameB s0.data.toList)) (pv : Int) (hpv : Hid (pv = parseV s1.data.toList)) (hpe0 : Hid (0 = parseE s1.data.toList)) :
    Calls Tryd.prog 12 #[.slice (some ⟨b, off, none⟩) 2 c] w fun e w' => e = .returned (.tuple #[.agg #[.string s0, .int .i64 pv, .int .i64 100], .int .i64 0]) ∧ Below w.heap.size w w' := by
  have hb0 := below1 w (.cells #[.string ⟨#[]⟩, .int .i64 0, .int .i64 0] 23)
  have y := Blk.mk w 23 #[.string ⟨#[]⟩, .int .i64 0, .int .i64 0]
  have d0 := (hb0.cell (p := ⟨b, _, none⟩) hlt).trans c0
  have d1 := (hb0.cell (p := ⟨b, _, none⟩) hlt).trans c1
  have KN := Lib.hid (name_c s0 · hs0 true hnm)
  clear hs0 hnm
  have KP := Lib.hid (parse_c s1 · hs1 pv 0 hpv hpe0)
  clear hpv hpe0 hs1
  go_enter Tryd.func12, Tryd.ntmps12
  go_wp2_with fail
  refine (KN.out _).mono ?_
  rintro e w1 ⟨rfl, rfl⟩
  go_wp2_with fail
  refine (KP.out _).mono ?_
  rintro e w2 ⟨rfl, hb2⟩
  have hb3 := bT hb0 hb2
  have y2 := y.t hb2
  clear d0 d1
  have d0 := (hb3.cell (p := ⟨b, _, none⟩) hlt).trans c0
  have d1 := (hb3.cell (p := ⟨b, _, none⟩) hlt).trans c1
  go_wp2_with fail
  refine (eof_c s0 pv _).mono ?_
  rintro e w3 ⟨rfl, hb4⟩
  have hb5 := bT hb3 hb4
  have y3 := y2.t hb4
  clear d0 d1
  have d0 := (hb5.cell (p := ⟨b, _, none⟩) hlt).trans c0
  have d1 := (hb5.cell (p := ⟨b, _, none⟩) hlt).trans c1
  have hb6 := bA hb5 (.cells #[.string s0, .int .i64 pv, .int .i64 100] 23)
  have y4 := y3.alloc (.cells #[.string s0, .int .i64 pv, .int .i64 100] 23)
  have x4 := Blk.mk w3 23 #[.string s0, .int .i64 pv, .int .i64 100]
  clear d0 d1
  have d0 := (hb6.cell (p := ⟨b, _, none⟩) hlt).trans c0
  have d1 := (hb6.cell (p := ⟨b, _, none⟩) hlt).trans c1
  obtain ⟨⟨q0, q1, q2⟩, f0, f1, f2⟩ := y4.a3f
  obtain ⟨⟨p0, p1, p2⟩, g0, g1, g2⟩ := x4.a3f
  go_wp2_with fail
  refine bodyPost_ret (v := .tuple #[.agg #[.string s0, .int .i64 pv, .int .i64 100], .int .i64 0]) (by simp [results, Tryd.results12, go_sem, q0, q1, q2]) rfl ⟨rfl, ?_⟩
  exact bS (bS (bS hb6 (Nat.le_refl _) _) (Nat.le_refl _) _) (Nat.le_refl _) _

theorem xUn_size (s : ByteArray) (h : s.size ≤ 9223372036854775807) : (ByteArray.mk (xUn s).toArray).size ≤ 9223372036854775807 := by
  have e : (ByteArray.mk (xUn s).toArray).size = (xUn s).length := by show (xUn s).toArray.size = _; rw [List.size_toArray]
  rw [e]
  have e2 : s.data.toList.length = s.size := by simp
  unfold xUn Lib.trimPrefix
  by_cases hp : Lib.hasPrefix s.data.toList [120] = true
  · rw [if_pos hp, List.length_drop]; omega
  · rw [if_neg hp]; omega
theorem ep3_nopre (b off c : Nat) (s0 s1 s2 : ByteArray) (w : World) (hlt : b < w.heap.size) (c0 : w.cell? ⟨b, off, none⟩ = some (.string s0)) (c1 : w.cell? ⟨b, off + 1, none⟩ = some (.string s1)) (c2 : w.cell? ⟨b, off + 2, none⟩ = some (.string s2)) (hs0 : s0.size ≤ 9223372036854775807) (hs1 : s1.size ≤ 9223372036854775807) (hnm : Hid (true = nameB s0.data.toList)) (pv : Int) (hpv : Hid (pv = parseV s1.data.toList)) (hpe0 : Hid (0 = parseE s1.data.toList)) (hx : Hid (false = xHas s2)) :
    Calls Tryd.prog 12 #[.slice (some ⟨b, off, none⟩) 3 c] w fun e w' => e = .returned (.tuple #[.agg #[.string ⟨#[]⟩, .int .i64 0, .int .i64 0], .int .i64 5]) ∧ Below w.heap.size w w' := by
  have hb0 := below1 w (.cells #[.string ⟨#[]⟩, .int .i64 0, .int .i64 0] 23)
  have y := Blk.mk w 23 #[.string ⟨#[]⟩, .int .i64 0, .int .i64 0]
  have d0 := (hb0.cell (p := ⟨b, _, none⟩) hlt).trans c0
  have d1 := (hb0.cell (p := ⟨b, _, none⟩) hlt).trans c1
  have d2 := (hb0.cell (p := ⟨b, _, none⟩) hlt).trans c2
  have KX : Hid (∀ W, Calls Tryd.prog 28 #[.string s2, .string ⟨#[120]⟩] W fun e w' => e = .returned (.tuple #[.string ⟨(xUn s2).toArray⟩, .bool false]) ∧ w' = W) := fun W => by rw [hx.out]; exact Tryd.strings_CutPrefix s2 ⟨#[120]⟩ W
  clear hx
  have KN := Lib.hid (name_c s0 · hs0 true hnm)
  clear hs0 hnm
  have KP := Lib.hid (parse_c s1 · hs1 pv 0 hpv hpe0)
  clear hpv hpe0 hs1
  go_enter Tryd.func12, Tryd.ntmps12
  go_wp2_with fail
  refine (KN.out _).mono ?_
  rintro e w1 ⟨rfl, rfl⟩
  go_wp2_with fail
  refine (KP.out _).mono ?_
  rintro e w2 ⟨rfl, hb2⟩
  have hb3 := bT hb0 hb2
  have y2 := y.t hb2
  clear d0 d1 d2
  have d0 := (hb3.cell (p := ⟨b, _, none⟩) hlt).trans c0
  have d1 := (hb3.cell (p := ⟨b, _, none⟩) hlt).trans c1
  have d2 := (hb3.cell (p := ⟨b, _, none⟩) hlt).trans c2
  go_wp2_with fail
  refine (eof_c s0 pv _).mono ?_
  rintro e w3 ⟨rfl, hb4⟩
  have hb5 := bT hb3 hb4
  have y3 := y2.t hb4
  clear d0 d1 d2
  have d0 := (hb5.cell (p := ⟨b, _, none⟩) hlt).trans c0
  have d1 := (hb5.cell (p := ⟨b, _, none⟩) hlt).trans c1
  have d2 := (hb5.cell (p := ⟨b, _, none⟩) hlt).trans c2
  have hb6 := bA hb5 (.cells #[.string s0, .int .i64 pv, .int .i64 100] 23)
  have y4 := y3.alloc (.cells #[.string s0, .int .i64 pv, .int .i64 100] 23)
  have x4 := Blk.mk w3 23 #[.string s0, .int .i64 pv, .int .i64 100]
  clear d0 d1 d2
  have d0 := (hb6.cell (p := ⟨b, _, none⟩) hlt).trans c0
  have d1 := (hb6.cell (p := ⟨b, _, none⟩) hlt).trans c1
  have d2 := (hb6.cell (p := ⟨b, _, none⟩) hlt).trans c2
  go_wp2_with fail
  refine (KX.out _).mono ?_
  rintro e w4 ⟨rfl, rfl⟩
  obtain ⟨⟨q0, q1, q2⟩, f0, f1, f2⟩ := y4.a3f
  obtain ⟨⟨p0, p1, p2⟩, g0, g1, g2⟩ := x4.a3f
  go_wp2_with fail
  refine bodyPost_ret (v := .tuple #[.agg #[.string ⟨#[]⟩, .int .i64 0, .int .i64 0], .int .i64 5]) (by simp [results, Tryd.results12, go_sem, q0, q1, q2]) rfl ⟨rfl, ?_⟩
  exact bS (bS (bS hb6 (Nat.le_refl _) _) (Nat.le_refl _) _) (Nat.le_refl _) _

theorem ep3_uerr (b off c : Nat) (s0 s1 s2 : ByteArray) (w : World) (hlt : b < w.heap.size) (c0 : w.cell? ⟨b, off, none⟩ = some (.string s0)) (c1 : w.cell? ⟨b, off + 1, none⟩ = some (.string s1)) (c2 : w.cell? ⟨b, off + 2, none⟩ = some (.string s2)) (hs0 : s0.size ≤ 9223372036854775807) (hs1 : s1.size ≤ 9223372036854775807) (hnm : Hid (true = nameB s0.data.toList)) (pv : Int) (hpv : Hid (pv = parseV s1.data.toList)) (hpe0 : Hid (0 = parseE s1.data.toList)) (hs2 : s2.size ≤ 9223372036854775807) (hx : Hid (true = xHas s2)) (uv ue : Int) (huv : Hid (uv = parseV (xUn s2))) (hue : Hid (ue = parseE (xUn s2))) (hue0 : ue ≠ 0) :
    Calls Tryd.prog 12 #[.slice (some ⟨b, off, none⟩) 3 c] w fun e w' => e = .returned (.tuple #[.agg #[.string ⟨#[]⟩, .int .i64 0, .int .i64 0], .int .i64 ue]) ∧ Below w.heap.size w w' := by
  have hb0 := below1 w (.cells #[.string ⟨#[]⟩, .int .i64 0, .int .i64 0] 23)
  have y := Blk.mk w 23 #[.string ⟨#[]⟩, .int .i64 0, .int .i64 0]
  have d0 := (hb0.cell (p := ⟨b, _, none⟩) hlt).trans c0
  have d1 := (hb0.cell (p := ⟨b, _, none⟩) hlt).trans c1
  have d2 := (hb0.cell (p := ⟨b, _, none⟩) hlt).trans c2
  have KX : Hid (∀ W, Calls Tryd.prog 28 #[.string s2, .string ⟨#[120]⟩] W fun e w' => e = .returned (.tuple #[.string ⟨(xUn s2).toArray⟩, .bool true]) ∧ w' = W) := fun W => by rw [hx.out]; exact Tryd.strings_CutPrefix s2 ⟨#[120]⟩ W
  have KU : Hid (∀ W, Calls Tryd.prog 14 #[.string ⟨(xUn s2).toArray⟩] W fun e w' => e = .returned (.tuple #[.int .i64 uv, .int .i64 ue]) ∧ Below W.heap.size W w') := fun W => parse_c ⟨(xUn s2).toArray⟩ W (xUn_size s2 hs2) uv ue (Lib.hid (by rw [huv.out])) (Lib.hid (by rw [hue.out]))
  clear hx huv hue hs2
  have KN := Lib.hid (name_c s0 · hs0 true hnm)
  clear hs0 hnm
  have KP := Lib.hid (parse_c s1 · hs1 pv 0 hpv hpe0)
  clear hpv hpe0 hs1
  have vue : (ue != 0) = true := by simpa using hue0
  clear hue0
  generalize xUn s2 = x2 at *
  go_enter Tryd.func12, Tryd.ntmps12
  go_wp2_with fail
  refine (KN.out _).mono ?_
  rintro e w1 ⟨rfl, rfl⟩
  go_wp2_with fail
  refine (KP.out _).mono ?_
  rintro e w2 ⟨rfl, hb2⟩
  have hb3 := bT hb0 hb2
  have y2 := y.t hb2
  clear d0 d1 d2
  have d0 := (hb3.cell (p := ⟨b, _, none⟩) hlt).trans c0
  have d1 := (hb3.cell (p := ⟨b, _, none⟩) hlt).trans c1
  have d2 := (hb3.cell (p := ⟨b, _, none⟩) hlt).trans c2
  go_wp2_with fail
  refine (eof_c s0 pv _).mono ?_
  rintro e w3 ⟨rfl, hb4⟩
  have hb5 := bT hb3 hb4
  have y3 := y2.t hb4
  clear d0 d1 d2
  have d0 := (hb5.cell (p := ⟨b, _, none⟩) hlt).trans c0
  have d1 := (hb5.cell (p := ⟨b, _, none⟩) hlt).trans c1
  have d2 := (hb5.cell (p := ⟨b, _, none⟩) hlt).trans c2
  have hb6 := bA hb5 (.cells #[.string s0, .int .i64 pv, .int .i64 100] 23)
  have y4 := y3.alloc (.cells #[.string s0, .int .i64 pv, .int .i64 100] 23)
  have x4 := Blk.mk w3 23 #[.string s0, .int .i64 pv, .int .i64 100]
  clear d0 d1 d2
  have d0 := (hb6.cell (p := ⟨b, _, none⟩) hlt).trans c0
  have d1 := (hb6.cell (p := ⟨b, _, none⟩) hlt).trans c1
  have d2 := (hb6.cell (p := ⟨b, _, none⟩) hlt).trans c2
  go_wp2_with fail
  refine (KX.out _).mono ?_
  rintro e w4 ⟨rfl, rfl⟩
  clear d0 d1 d2
  have hb7a := hb6
  go_wp2_with fail
  refine (KU.out _).mono ?_
  rintro e w5 ⟨rfl, hb7⟩
  have hb8 := bT hb6 hb7
  obtain ⟨⟨q0, q1, q2⟩, f0, f1, f2⟩ := (y4.t hb7).a3f
  have x5 := x4.t hb7
  obtain ⟨⟨p0, p1, p2⟩, g0, g1, g2⟩ := x5.a3f
  have hne := y.lt
  have hsz := hb5.size
  have hne2 : w.heap.size ≠ w3.heap.size := by have := y3.lt; omega
  go_wp2_with fail
  refine bodyPost_ret (v := .tuple #[.agg #[.string ⟨#[]⟩, .int .i64 0, .int .i64 0], .int .i64 ue]) (by simp [results, Tryd.results12, go_sem, q0, q1, q2]) rfl ⟨rfl, ?_⟩
  exact bS (bS (bS (bS hb8 hsz _) (Nat.le_refl _) _) (Nat.le_refl _) _) (Nat.le_refl _) _

theorem ep3_low (b off c : Nat) (s0 s1 s2 : ByteArray) (w : World) (hlt : b < w.heap.size) (c0 : w.cell? ⟨b, off, none⟩ = some (.string s0)) (c1 : w.cell? ⟨b, off + 1, none⟩ = some (.string s1)) (c2 : w.cell? ⟨b, off + 2, none⟩ = some (.string s2)) (hs0 : s0.size ≤ 9223372036854775807) (hs1 : s1.size ≤ 9223372036854775807) (hnm : Hid (true = nameB s0.data.toList)) (pv : Int) (hpv : Hid (pv = parseV s1.data.toList)) (hpe0 : Hid (0 = parseE s1.data.toList)) (hs2 : s2.size ≤ 9223372036854775807) (hx : Hid (true = xHas s2)) (uv : Int) (huv : Hid (uv = parseV (xUn s2))) (hue : Hid (0 = parseE (xUn s2))) (hlo : uv < 0) :
    Calls Tryd.prog 12 #[.slice (some ⟨b, off, none⟩) 3 c] w fun e w' => e = .returned (.tuple #[.agg #[.string ⟨#[]⟩, .int .i64 0, .int .i64 0], .int .i64 1]) ∧ Below w.heap.size w w' := by
  have hb0 := below1 w (.cells #[.string ⟨#[]⟩, .int .i64 0, .int .i64 0] 23)
  have y := Blk.mk w 23 #[.string ⟨#[]⟩, .int .i64 0, .int .i64 0]
  have d0 := (hb0.cell (p := ⟨b, _, none⟩) hlt).trans c0
  have d1 := (hb0.cell (p := ⟨b, _, none⟩) hlt).trans c1
  have d2 := (hb0.cell (p := ⟨b, _, none⟩) hlt).trans c2
  have KX : Hid (∀ W, Calls Tryd.prog 28 #[.string s2, .string ⟨#[120]⟩] W fun e w' => e = .returned (.tuple #[.string ⟨(xUn s2).toArray⟩, .bool true]) ∧ w' = W) := fun W => by rw [hx.out]; exact Tryd.strings_CutPrefix s2 ⟨#[120]⟩ W
  have KU : Hid (∀ W, Calls Tryd.prog 14 #[.string ⟨(xUn s2).toArray⟩] W fun e w' => e = .returned (.tuple #[.int .i64 uv, .int .i64 0]) ∧ Below W.heap.size W w') := fun W => parse_c ⟨(xUn s2).toArray⟩ W (xUn_size s2 hs2) uv 0 (Lib.hid (by rw [huv.out])) (Lib.hid (by rw [hue.out]))
  clear hx huv hue hs2
  have KN := Lib.hid (name_c s0 · hs0 true hnm)
  clear hs0 hnm
  have KP := Lib.hid (parse_c s1 · hs1 pv 0 hpv hpe0)
  clear hpv hpe0 hs1
  generalize xUn s2 = x2 at *
  have vlo : decide (uv < 0) = true := by simpa using hlo
  clear hlo
  go_enter Tryd.func12, Tryd.ntmps12
  go_wp2_with fail
  refine (KN.out _).mono ?_
  rintro e w1 ⟨rfl, rfl⟩
  go_wp2_with fail
  refine (KP.out _).mono ?_
  rintro e w2 ⟨rfl, hb2⟩
  have hb3 := bT hb0 hb2
  have y2 := y.t hb2
  clear d0 d1 d2
  have d0 := (hb3.cell (p := ⟨b, _, none⟩) hlt).trans c0
  have d1 := (hb3.cell (p := ⟨b, _, none⟩) hlt).trans c1
  have d2 := (hb3.cell (p := ⟨b, _, none⟩) hlt).trans c2
  go_wp2_with fail
  refine (eof_c s0 pv _).mono ?_
  rintro e w3 ⟨rfl, hb4⟩
  have hb5 := bT hb3 hb4
  have y3 := y2.t hb4
  clear d0 d1 d2
  have d0 := (hb5.cell (p := ⟨b, _, none⟩) hlt).trans c0
  have d1 := (hb5.cell (p := ⟨b, _, none⟩) hlt).trans c1
  have d2 := (hb5.cell (p := ⟨b, _, none⟩) hlt).trans c2
  have hb6 := bA hb5 (.cells #[.string s0, .int .i64 pv, .int .i64 100] 23)
  have y4 := y3.alloc (.cells #[.string s0, .int .i64 pv, .int .i64 100] 23)
  have x4 := Blk.mk w3 23 #[.string s0, .int .i64 pv, .int .i64 100]
  clear d0 d1 d2
  have d0 := (hb6.cell (p := ⟨b, _, none⟩) hlt).trans c0
  have d1 := (hb6.cell (p := ⟨b, _, none⟩) hlt).trans c1
  have d2 := (hb6.cell (p := ⟨b, _, none⟩) hlt).trans c2
  go_wp2_with fail
  refine (KX.out _).mono ?_
  rintro e w4 ⟨rfl, rfl⟩
  clear d0 d1 d2
  have hb7a := hb6
  go_wp2_with fail
  refine (KU.out _).mono ?_
  rintro e w5 ⟨rfl, hb7⟩
  have hb8 := bT hb6 hb7
  obtain ⟨⟨q0, q1, q2⟩, f0, f1, f2⟩ := (y4.t hb7).a3f
  have x5 := x4.t hb7
  obtain ⟨⟨p0, p1, p2⟩, g0, g1, g2⟩ := x5.a3f
  have hne := y.lt
  have hsz := hb5.size
  have hne2 : w.heap.size ≠ w3.heap.size := by have := y3.lt; omega
  go_wp2_with fail
  refine bodyPost_ret (v := .tuple #[.agg #[.string ⟨#[]⟩, .int .i64 0, .int .i64 0], .int .i64 1]) (by simp [results, Tryd.results12, go_sem, q0, q1, q2]) rfl ⟨rfl, ?_⟩
  exact bS (bS (bS (bS hb8 hsz _) (Nat.le_refl _) _) (Nat.le_refl _) _) (Nat.le_refl _) _

theorem ep3_high (b off c : Nat) (s0 s1 s2 : ByteArray) (w : World) (hlt : b < w.heap.size) (c0 : w.cell? ⟨b, off, none⟩ = some (.string s0)) (c1 : w.cell? ⟨b, off + 1, none⟩ = some (.string s1)) (c2 : w.cell? ⟨b, off + 2, none⟩ = some (.string s2)) (hs0 : s0.size ≤ 9223372036854775807) (hs1 : s1.size ≤ 9223372036854775807) (hnm : Hid (true = nameB s0.data.toList)) (pv : Int) (hpv : Hid (pv = parseV s1.data.toList)) (hpe0 : Hid (0 = parseE s1.data.toList)) (hs2 : s2.size ≤ 9223372036854775807) (hx : Hid (true = xHas s2)) (uv : Int) (huv : Hid (uv = parseV (xUn s2))) (hue : Hid (0 = parseE (xUn s2))) (hhi : 100000 < uv) :
    Calls Tryd.prog 12 #[.slice (some ⟨b, off, none⟩) 3 c] w fun e w' => e = .returned (.tuple #[.agg #[.string ⟨#[]⟩, .int .i64 0, .int .i64 0], .int .i64 1]) ∧ Below w.heap.size w w' := by
  have hb0 := below1 w (.cells #[.string ⟨#[]⟩, .int .i64 0, .int .i64 0] 23)
  have y := Blk.mk w 23 #[.string ⟨#[]⟩, .int .i64 0, .int .i64 0]
  have d0 := (hb0.cell (p := ⟨b, _, none⟩) hlt).trans c0
  have d1 := (hb0.cell (p := ⟨b, _, none⟩) hlt).trans c1
  have d2 := (hb0.cell (p := ⟨b, _, none⟩) hlt).trans c2
  have KX : Hid (∀ W, Calls Tryd.prog 28 #[.string s2, .string ⟨#[120]⟩] W fun e w' => e = .returned (.tuple #[.string ⟨(xUn s2).toArray⟩, .bool true]) ∧ w' = W) := fun W => by rw [hx.out]; exact Tryd.strings_CutPrefix s2 ⟨#[120]⟩ W
  have KU : Hid (∀ W, Calls Tryd.prog 14 #[.string ⟨(xUn s2).toArray⟩] W fun e w' => e = .returned (.tuple #[.int .i64 uv, .int .i64 0]) ∧ Below W.heap.size W w') := fun W => parse_c ⟨(xUn s2).toArray⟩ W (xUn_size s2 hs2) uv 0 (Lib.hid (by rw [huv.out])) (Lib.hid (by rw [hue.out]))
  clear hx huv hue hs2
  have KN := Lib.hid (name_c s0 · hs0 true hnm)
  clear hs0 hnm
  have KP := Lib.hid (parse_c s1 · hs1 pv 0 hpv hpe0)
  clear hpv hpe0 hs1
  generalize xUn s2 = x2 at *
  have vlo : decide (uv < 0) = false := by simp; omega
  have vhi : decide (100000 < uv) = true := by simpa using hhi
  clear hhi
  go_enter Tryd.func12, Tryd.ntmps12
  go_wp2_with fail
  refine (KN.out _).mono ?_
  rintro e w1 ⟨rfl, rfl⟩
  go_wp2_with fail
  refine (KP.out _).mono ?_
  rintro e w2 ⟨rfl, hb2⟩
  have hb3 := bT hb0 hb2
  have y2 := y.t hb2
  clear d0 d1 d2
  have d0 := (hb3.cell (p := ⟨b, _, none⟩) hlt).trans c0
  have d1 := (hb3.cell (p := ⟨b, _, none⟩) hlt).trans c1
  have d2 := (hb3.cell (p := ⟨b, _, none⟩) hlt).trans c2
  go_wp2_with fail
  refine (eof_c s0 pv _).mono ?_
  rintro e w3 ⟨rfl, hb4⟩
  have hb5 := bT hb3 hb4
  have y3 := y2.t hb4
  clear d0 d1 d2
  have d0 := (hb5.cell (p := ⟨b, _, none⟩) hlt).trans c0
  have d1 := (hb5.cell (p := ⟨b, _, none⟩) hlt).trans c1
  have d2 := (hb5.cell (p := ⟨b, _, none⟩) hlt).trans c2
  have hb6 := bA hb5 (.cells #[.string s0, .int .i64 pv, .int .i64 100] 23)
  have y4 := y3.alloc (.cells #[.string s0, .int .i64 pv, .int .i64 100] 23)
  have x4 := Blk.mk w3 23 #[.string s0, .int .i64 pv, .int .i64 100]
  clear d0 d1 d2
  have d0 := (hb6.cell (p := ⟨b, _, none⟩) hlt).trans c0
  have d1 := (hb6.cell (p := ⟨b, _, none⟩) hlt).trans c1
  have d2 := (hb6.cell (p := ⟨b, _, none⟩) hlt).trans c2
  go_wp2_with fail
  refine (KX.out _).mono ?_
  rintro e w4 ⟨rfl, rfl⟩
  clear d0 d1 d2
  have hb7a := hb6
  go_wp2_with fail
  refine (KU.out _).mono ?_
  rintro e w5 ⟨rfl, hb7⟩
  have hb8 := bT hb6 hb7
  obtain ⟨⟨q0, q1, q2⟩, f0, f1, f2⟩ := (y4.t hb7).a3f
  have x5 := x4.t hb7
  obtain ⟨⟨p0, p1, p2⟩, g0, g1, g2⟩ := x5.a3f
  have hne := y.lt
  have hsz := hb5.size
  have hne2 : w.heap.size ≠ w3.heap.size := by have := y3.lt; omega
  go_wp2_with fail
  refine bodyPost_ret (v := .tuple #[.agg #[.string ⟨#[]⟩, .int .i64 0, .int .i64 0], .int .i64 1]) (by simp [results, Tryd.results12, go_sem, q0, q1, q2]) rfl ⟨rfl, ?_⟩
  exact bS (bS (bS (bS hb8 hsz _) (Nat.le_refl _) _) (Nat.le_refl _) _) (Nat.le_refl _) _

theorem ep3_ok (b off c : Nat) (s0 s1 s2 : ByteArray) (w : World) (hlt : b < w.heap.size) (c0 : w.cell? ⟨b, off, none⟩ = some (.string s0)) (c1 : w.cell? ⟨b, off + 1, none⟩ = some (.string s1)) (c2 : w.cell? ⟨b, off + 2, none⟩ = some (.string s2)) (hs0 : s0.size ≤ 9223372036854775807) (hs1 : s1.size ≤ 9223372036854775807) (hnm : Hid (true = nameB s0.data.toList)) (pv : Int) (hpv : Hid (pv = parseV s1.data.toList)) (hpe0 : Hid (0 = parseE s1.data.toList)) (hs2 : s2.size ≤ 9223372036854775807) (hx : Hid (true = xHas s2)) (uv : Int) (huv : Hid (uv = parseV (xUn s2))) (hue : Hid (0 = parseE (xUn s2))) (hlo : 0 ≤ uv) (hhi : uv ≤ 100000) :
    Calls Tryd.prog 12 #[.slice (some ⟨b, off, none⟩) 3 c] w fun e w' => e = .returned (.tuple #[.agg #[.string s0, .int .i64 pv, .int .i64 uv], .int .i64 0]) ∧ Below w.heap.size w w' := by
  have hb0 := below1 w (.cells #[.string ⟨#[]⟩, .int .i64 0, .int .i64 0] 23)
  have y := Blk.mk w 23 #[.string ⟨#[]⟩, .int .i64 0, .int .i64 0]
  have d0 := (hb0.cell (p := ⟨b, _, none⟩) hlt).trans c0
  have d1 := (hb0.cell (p := ⟨b, _, none⟩) hlt).trans c1
  have d2 := (hb0.cell (p := ⟨b, _, none⟩) hlt).trans c2
  have KX : Hid (∀ W, Calls Tryd.prog 28 #[.string s2, .string ⟨#[120]⟩] W fun e w' => e = .returned (.tuple #[.string ⟨(xUn s2).toArray⟩, .bool true]) ∧ w' = W) := fun W => by rw [hx.out]; exact Tryd.strings_CutPrefix s2 ⟨#[120]⟩ W
  have KU : Hid (∀ W, Calls Tryd.prog 14 #[.string ⟨(xUn s2).toArray⟩] W fun e w' => e = .returned (.tuple #[.int .i64 uv, .int .i64 0]) ∧ Below W.heap.size W w') := fun W => parse_c ⟨(xUn s2).toArray⟩ W (xUn_size s2 hs2) uv 0 (Lib.hid (by rw [huv.out])) (Lib.hid (by rw [hue.out]))
  clear hx huv hue hs2
  have KN := Lib.hid (name_c s0 · hs0 true hnm)
  clear hs0 hnm
  have KP := Lib.hid (parse_c s1 · hs1 pv 0 hpv hpe0)
  clear hpv hpe0 hs1
  generalize xUn s2 = x2 at *
  have vlo : decide (uv < 0) = false := by simp; omega
  have vhi : decide (100000 < uv) = false := by simp; omega
  go_enter Tryd.func12, Tryd.ntmps12
  go_wp2_with fail
  refine (KN.out _).mono ?_
  rintro e w1 ⟨rfl, rfl⟩
  go_wp2_with fail
  refine (KP.out _).mono ?_
  rintro e w2 ⟨rfl, hb2⟩
  have hb3 := bT hb0 hb2
  have y2 := y.t hb2
  clear d0 d1 d2
  have d0 := (hb3.cell (p := ⟨b, _, none⟩) hlt).trans c0
  have d1 := (hb3.cell (p := ⟨b, _, none⟩) hlt).trans c1
  have d2 := (hb3.cell (p := ⟨b, _, none⟩) hlt).trans c2
  go_wp2_with fail
  refine (eof_c s0 pv _).mono ?_
  rintro e w3 ⟨rfl, hb4⟩
  have hb5 := bT hb3 hb4
  have y3 := y2.t hb4
  clear d0 d1 d2
  have d0 := (hb5.cell (p := ⟨b, _, none⟩) hlt).trans c0
  have d1 := (hb5.cell (p := ⟨b, _, none⟩) hlt).trans c1
  have d2 := (hb5.cell (p := ⟨b, _, none⟩) hlt).trans c2
  have hb6 := bA hb5 (.cells #[.string s0, .int .i64 pv, .int .i64 100] 23)
  have y4 := y3.alloc (.cells #[.string s0, .int .i64 pv, .int .i64 100] 23)
  have x4 := Blk.mk w3 23 #[.string s0, .int .i64 pv, .int .i64 100]
  clear d0 d1 d2
  have d0 := (hb6.cell (p := ⟨b, _, none⟩) hlt).trans c0
  have d1 := (hb6.cell (p := ⟨b, _, none⟩) hlt).trans c1
  have d2 := (hb6.cell (p := ⟨b, _, none⟩) hlt).trans c2
  go_wp2_with fail
  refine (KX.out _).mono ?_
  rintro e w4 ⟨rfl, rfl⟩
  clear d0 d1 d2
  have hb7a := hb6
  go_wp2_with fail
  refine (KU.out _).mono ?_
  rintro e w5 ⟨rfl, hb7⟩
  have hb8 := bT hb6 hb7
  obtain ⟨⟨q0, q1, q2⟩, f0, f1, f2⟩ := (y4.t hb7).a3f
  have x5 := x4.t hb7
  obtain ⟨⟨p0, p1, p2⟩, g0, g1, g2⟩ := x5.a3f
  have hne := y.lt
  have hsz := hb5.size
  have hne2 : w.heap.size ≠ w3.heap.size := by have := y3.lt; omega
  go_wp2_with fail
  refine bodyPost_ret (v := .tuple #[.agg #[.string s0, .int .i64 pv, .int .i64 uv], .int .i64 0]) (by simp [results, Tryd.results12, go_sem, q0, q1, q2]) rfl ⟨rfl, ?_⟩
  exact bS (bS (bS (bS hb8 hsz _) (Nat.le_refl _) _) (Nat.le_refl _) _) (Nat.le_refl _) _

--%%
theorem eparse_c (A : Option Addr) (n c : Nat) (L : List ByteArray) (w : World) (hl : StSl w A n L) (hs : ∀ k, k < n → (L.getD k st0).size ≤ 9223372036854775807) (rz : El) (re : Int)
    (h1 : Hid (re = epE n (L.getD 0 st0) (L.getD 1 st0) (L.getD 2 st0))) (h2 : Hid (rz = epZ n (L.getD 0 st0) (L.getD 1 st0) (L.getD 2 st0))) :
    Calls Tryd.prog 12 #[.slice A n c] w fun e w' => e = .returned (.tuple #[.agg #[.string rz.k, .int .i64 rz.a, .int .i64 rz.u], .int .i64 re]) ∧ Below w.heap.size w w' := by
  have zero : ∀ x : Int, x ≠ 0 → epE n (L.getD 0 st0) (L.getD 1 st0) (L.getD 2 st0) = x → re = x ∧ rz = el0 := fun x hx h => ⟨h1.out.trans h, by rw [h2.out]; unfold epZ; rw [h, if_neg hx]⟩
  by_cases hn : n = 2 ∨ n = 3
  case neg =>
    obtain ⟨rfl, rfl⟩ := zero 5 (by decide) (by unfold epE; rw [if_pos hn])
    exact ep_n A n c w (fun h => hn (Or.inl h)) (fun h => hn (Or.inr h))
  obtain ⟨b, off, rfl, hlt, hat⟩ := hl.2.2 (by omega)
  have c0 : w.cell? ⟨b, off, none⟩ = some (.string (L.getD 0 st0)) := hat 0 (by omega) 0 _ rfl
  have c1 : w.cell? ⟨b, off + 1, none⟩ = some (.string (L.getD 1 st0)) := hat 1 (by omega) 0 _ rfl
  have c2 : n = 3 → w.cell? ⟨b, off + 2, none⟩ = some (.string (L.getD 2 st0)) := fun h => hat 2 (by omega) 0 _ rfl
  have z0 := hs 0 (by omega)
  have z1 := hs 1 (by omega)
  have z2 : n = 3 → (L.getD 2 st0).size ≤ 9223372036854775807 := fun h => hs 2 (by omega)
  generalize L.getD 0 st0 = s0 at *
  generalize L.getD 1 st0 = s1 at *
  generalize L.getD 2 st0 = s2 at *
  clear hat hl hs
  cases hN : nameB s0.data.toList
  · obtain ⟨rfl, rfl⟩ := zero 5 (by decide) (by simp [epE, hn, hN])
    rcases hn with rfl | rfl
    · exact ep2_name b off c s0 s1 w hlt c0 c1 z0 z1 hN.symm
    · exact ep3_name b off c s0 s1 s2 w hlt c0 c1 (c2 rfl) z0 z1 hN.symm
  by_cases hp : parseE s1.data.toList = 0
  case neg =>
    obtain ⟨rfl, rfl⟩ := zero (parseE s1.data.toList) hp (by simp [epE, hn, hN, hp])
    rcases hn with rfl | rfl
    · exact ep2_parse b off c s0 s1 w hlt c0 c1 z0 z1 hN.symm _ _ rfl rfl hp
    · exact ep3_parse b off c s0 s1 s2 w hlt c0 c1 (c2 rfl) z0 z1 hN.symm _ _ rfl rfl hp
  rcases hn with rfl | rfl
  · have e1 : epE 2 s0 s1 s2 = 0 := by simp [epE, hN, hp]
    obtain rfl : re = 0 := h1.out.trans e1
    obtain rfl : rz = ⟨s0, parseV s1.data.toList, 100⟩ := by rw [h2.out]; unfold epZ; rw [if_pos e1, if_pos rfl]
    exact ep2_ok b off c s0 s1 w hlt c0 c1 z0 z1 hN.symm _ rfl hp.symm
  cases hx : xHas s2
  · obtain ⟨rfl, rfl⟩ := zero 5 (by decide) (by simp [epE, hN, hp, hx])
    exact ep3_nopre b off c s0 s1 s2 w hlt c0 c1 (c2 rfl) z0 z1 hN.symm _ rfl hp.symm hx.symm
  by_cases hu : parseE (xUn s2) = 0
  case neg =>
    obtain ⟨rfl, rfl⟩ := zero (parseE (xUn s2)) hu (by simp [epE, hN, hp, hx, hu])
    exact ep3_uerr b off c s0 s1 s2 w hlt c0 c1 (c2 rfl) z0 z1 hN.symm _ rfl hp.symm (z2 rfl) hx.symm _ _ rfl rfl hu
  by_cases hlo : parseV (xUn s2) < 0
  · obtain ⟨rfl, rfl⟩ := zero 1 (by decide) (by simp [epE, hN, hp, hx, hu, hlo])
    exact ep3_low b off c s0 s1 s2 w hlt c0 c1 (c2 rfl) z0 z1 hN.symm _ rfl hp.symm (z2 rfl) hx.symm _ rfl hu.symm hlo
  by_cases hhi : 100000 < parseV (xUn s2)
  · obtain ⟨rfl, rfl⟩ := zero 1 (by decide) (by simp [epE, hN, hp, hx, hu, hhi])
    exact ep3_high b off c s0 s1 s2 w hlt c0 c1 (c2 rfl) z0 z1 hN.symm _ rfl hp.symm (z2 rfl) hx.symm _ rfl hu.symm hhi
  have e1 : epE 3 s0 s1 s2 = 0 := by simp [epE, hN, hp, hx, hu, hlo, hhi]
  obtain rfl : re = 0 := h1.out.trans e1
  obtain rfl : rz = ⟨s0, parseV s1.data.toList, parseV (xUn s2)⟩ := by rw [h2.out]; unfold epZ; rw [if_pos e1, if_neg (by decide)]
  exact ep3_ok b off c s0 s1 s2 w hlt c0 c1 (c2 rfl) z0 z1 hN.symm _ rfl hp.symm (z2 rfl) hx.symm (parseV (xUn s2)) rfl hu.symm (Int.not_lt.1 hlo) (Int.not_lt.1 hhi)
--%%
end Go.Proofs.YtbpdgkaohfmabaaDoor
