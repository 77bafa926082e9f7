/-
 Contracts of package base: Add, Sub, More. Conditions as named.
-/
import Derived.Test.YtiaabmhjkoohmaaGreatM1
import Derived.LoopN
namespace Go.Proofs.YtiaabmhjkoohmaaGreat
set_option maxRecDepth 100000
set_option maxHeartbeats 25600000
set_option linter.unusedVariables false
set_option linter.unusedSimpArgs false
open Go.RowKit Tryz
open Lib (hid)
def okO (o : Int → Int → Int) (x y : Int) : Bool := mrB x && mrB y && mrB (o x y)
def bothOK (o : Int → Int → Int) (a b : Bs) : Bool := okO o a.c b.c && okO o a.t b.t && okO o a.s b.s
def bEz (o : Int → Int → Int) (a b : Bs) : Int := if bothOK o a b = true then 0 else 10
def bothV (o : Int → Int → Int) (a b : Bs) : Bs := if bothOK o a b = true then ⟨o a.c b.c, o a.t b.t, o a.s b.s⟩ else bs0
def bsC (b : Bs) : Array Value := #[.int .i64 b.c, .int .i64 b.t, .int .i64 b.s]
theorem okO_no {o : Int → Int → Int} {x y : Int} (h : okO o x y = false) : ¬ (mrB x = true ∧ mrB y = true ∧ mrB (o x y) = true) := by
 rintro ⟨h1, h2, h3⟩
 simp [okO, h1, h2, h3] at h
theorem okO_yes {o : Int → Int → Int} {x y : Int} (h : okO o x y = true) : mrB x = true ∧ mrB y = true ∧ mrB (o x y) = true := by
 simp [okO] at h
 exact ⟨h.1.1, h.1.2, h.2⟩
theorem Blk.a3f {w : World} {g : Nat} {t : TypeId} {a b c : Value} (h : Blk w g t #[a, b, c]) : (w.cell? ⟨g, 0, none⟩ = some a ∧ w.cell? ⟨g, 1, none⟩ = some b ∧ w.cell? ⟨g, 2, none⟩ = some c) ∧ w.frozen? ⟨g, 0, none⟩ = false ∧ w.frozen? ⟨g, 1, none⟩ = false ∧ w.frozen? ⟨g, 2, none⟩ = false := ⟨⟨h.cell 0, h.cell 1, h.cell 2⟩, h.free 0, h.free 1, h.free 2⟩
def Ao9 (x y : Int) : Int := x + y
def So9 (x y : Int) : Int := x - y
theorem AddOp_c (x y : Int) (w : World) (h : okO Ao9 x y = true) : Calls prog 124 #[.int .i64 x, .int .i64 y] w fun e w' => e = .returned (.tuple #[.int .i64 (Ao9 x y), .int .i64 0]) ∧ Below w.heap.size w w' := add_t x y w (okO_yes h).1 (okO_yes h).2.1 (okO_yes h).2.2
theorem AddOp_f (x y : Int) (w : World) (h : okO Ao9 x y = false) : Calls prog 124 #[.int .i64 x, .int .i64 y] w fun e w' => e = .returned (.tuple #[.int .i64 0, .int .i64 10]) ∧ Below w.heap.size w w' := add_f x y w (okO_no h)
theorem SubOp_c (x y : Int) (w : World) (h : okO So9 x y = true) : Calls prog 92 #[.int .i64 x, .int .i64 y] w fun e w' => e = .returned (.tuple #[.int .i64 (So9 x y), .int .i64 0]) ∧ Below w.heap.size w w' := sub_t x y w (okO_yes h).1 (okO_yes h).2.1 (okO_yes h).2.2
theorem SubOp_f (x y : Int) (w : World) (h : okO So9 x y = false) : Calls prog 92 #[.int .i64 x, .int .i64 y] w fun e w' => e = .returned (.tuple #[.int .i64 0, .int .i64 10]) ∧ Below w.heap.size w w' := sub_f x y w (okO_no h)
theorem bboth_g (O : Int → Int → Int) (M : Nat) (hM : M = 124 ∨ M = 92) (hc : ∀ (x y : Int) (w : World), okO O x y = true → Calls prog M #[.int .i64 x, .int .i64 y] w fun e w' => e = .returned (.tuple #[.int .i64 (O x y), .int .i64 0]) ∧ Below w.heap.size w w') (hf : ∀ (x y : Int) (w : World), okO O x y = false → Calls prog M #[.int .i64 x, .int .i64 y] w fun e w' => e = .returned (.tuple #[.int .i64 0, .int .i64 10]) ∧ Below w.heap.size w w') (a b : Bs) (w : World) (re : Int) (rv : Bs) (he : Hid (re = bEz O a b)) (hv : Hid (rv = bothV O a b)) :
  Calls prog 127 #[.agg #[.int .i64 a.c, .int .i64 a.t, .int .i64 a.s], .agg #[.int .i64 b.c, .int .i64 b.t, .int .i64 b.s], .func (.func M) #[] #[]] w fun e w' => e = .returned (.tuple #[.agg #[.int .i64 rv.c, .int .i64 rv.t, .int .i64 rv.s], .int .i64 re]) ∧ Below w.heap.size w w' := by
 rcases hM with rfl | rfl
 all_goals
  obtain ⟨a1, a2, a3⟩ := a
  obtain ⟨b1, b2, b3⟩ := b
  have i0 : ∀ W, (Instr.index 265 (.agg #[.pointer (some ⟨w.heap.size + 1 + 1 + 1, 0, none⟩), .int .i64 a1, .int .i64 b1, .pointer (some ⟨w.heap.size + 1 + 1 + 1, 1, none⟩), .int .i64 a2, .int .i64 b2, .pointer (some ⟨w.heap.size + 1 + 1 + 1, 2, none⟩), .int .i64 a3, .int .i64 b3]) (.int .i64 0)).run prog W = .ok (.agg #[.pointer (some ⟨w.heap.size + 1 + 1 + 1, 0, none⟩), .int .i64 a1, .int .i64 b1]) W := fun _ => by kernel_rfl
  have i1 : ∀ W, (Instr.index 265 (.agg #[.pointer (some ⟨w.heap.size + 1 + 1 + 1, 0, none⟩), .int .i64 a1, .int .i64 b1, .pointer (some ⟨w.heap.size + 1 + 1 + 1, 1, none⟩), .int .i64 a2, .int .i64 b2, .pointer (some ⟨w.heap.size + 1 + 1 + 1, 2, none⟩), .int .i64 a3, .int .i64 b3]) (.int .i64 1)).run prog W = .ok (.agg #[.pointer (some ⟨w.heap.size + 1 + 1 + 1, 1, none⟩), .int .i64 a2, .int .i64 b2]) W := fun _ => by kernel_rfl
  have i2 : ∀ W, (Instr.index 265 (.agg #[.pointer (some ⟨w.heap.size + 1 + 1 + 1, 0, none⟩), .int .i64 a1, .int .i64 b1, .pointer (some ⟨w.heap.size + 1 + 1 + 1, 1, none⟩), .int .i64 a2, .int .i64 b2, .pointer (some ⟨w.heap.size + 1 + 1 + 1, 2, none⟩), .int .i64 a3, .int .i64 b3]) (.int .i64 2)).run prog W = .ok (.agg #[.pointer (some ⟨w.heap.size + 1 + 1 + 1, 2, none⟩), .int .i64 a3, .int .i64 b3]) W := fun _ => by kernel_rfl
  dsimp only
  go_enter func127, ntmps127
  have r0 := (Blk.mk ((w.alloc (.cells #[.int .i64 a1, .int .i64 a2, .int .i64 a3] 41)).alloc (.cells #[.int .i64 b1, .int .i64 b2, .int .i64 b3] 41)) 41 #[.int .i64 0, .int .i64 0, .int .i64 0]).alloc (.cells #[.int .i64 0, .int .i64 0, .int .i64 0] 41)
  have u0 := Blk.mk (((w.alloc (.cells #[.int .i64 a1, .int .i64 a2, .int .i64 a3] 41)).alloc (.cells #[.int .i64 b1, .int .i64 b2, .int .i64 b3] 41)).alloc (.cells #[.int .i64 0, .int .i64 0, .int .i64 0] 41)) 41 #[.int .i64 0, .int .i64 0, .int .i64 0]
  simp only [World.size_alloc] at r0 u0
  have HB0 : Hid (Below w.heap.size w ((((w.alloc (.cells #[.int .i64 a1, .int .i64 a2, .int .i64 a3] 41)).alloc (.cells #[.int .i64 b1, .int .i64 b2, .int .i64 b3] 41)).alloc (.cells #[.int .i64 0, .int .i64 0, .int .i64 0] 41)).alloc (.cells #[.int .i64 0, .int .i64 0, .int .i64 0] 41))) := bA (bA (bA (bz1 w _) _) _) _
  have HR := hid r0
  have HU := hid u0
  clear r0 u0
  go_wp2_with fail
  refine wp_loop_rounds 4 ?_
  rw [rounds_succ]
  have hx0 := Blk.mk ((((w.alloc (.cells #[.int .i64 a1, .int .i64 a2, .int .i64 a3] 41)).alloc (.cells #[.int .i64 b1, .int .i64 b2, .int .i64 b3] 41)).alloc (.cells #[.int .i64 0, .int .i64 0, .int .i64 0] 41)).alloc (.cells #[.int .i64 0, .int .i64 0, .int .i64 0] 41)) 264 #[.pointer (some ⟨w.heap.size + 1 + 1 + 1, 0, none⟩), .int .i64 a1, .int .i64 b1]
  have HR0 := hid (HR.out.alloc (.cells #[.pointer (some ⟨w.heap.size + 1 + 1 + 1, 0, none⟩), .int .i64 a1, .int .i64 b1] 264))
  have HU0 := hid (HU.out.alloc (.cells #[.pointer (some ⟨w.heap.size + 1 + 1 + 1, 0, none⟩), .int .i64 a1, .int .i64 b1] 264))
  have HB1 := hid (bA HB0.out (.cells #[.pointer (some ⟨w.heap.size + 1 + 1 + 1, 0, none⟩), .int .i64 a1, .int .i64 b1] 264))
  simp only [World.size_alloc, World.size_setCell] at hx0
  have HX := hid hx0
  clear hx0 HR HU
  cases h0 : okO O a1 b1
  ·
   have K := hid (fun W => hf a1 b1 W h0)
   have HE : Hid (re = 10) := he.out.trans (by unfold bEz bothOK; simp [h0])
   have HV : Hid (rv = bs0) := hv.out.trans (by unfold bothV bothOK; simp [h0])
   clear h0
   go_wp2_with fail
   refine (K.out _).mono ?_
   rintro e W ⟨rfl, hb⟩
   obtain ⟨⟨c0, c1, c2⟩, f0, f1, f2⟩ := (HR0.out.t hb).a3f
   have HBW := hid (bT HB1.out hb)
   clear hb K
   go_wp2_with fail
   refine bodyPost_ret (v := .tuple #[.agg #[.int .i64 0, .int .i64 0, .int .i64 0], .int .i64 10]) (by simp [results, results127, go_sem, c0, c1, c2]) rfl ⟨by rw [HE.out, HV.out] <;> rfl, ?_⟩
   exact bS (bS (bS HBW.out (show w.heap.size ≤ w.heap.size + 1 + 1 by omega) _) (show w.heap.size ≤ w.heap.size + 1 + 1 by omega) _) (show w.heap.size ≤ w.heap.size + 1 + 1 by omega) _
  have HH0 := hid h0
  have K := hid (fun W => hc a1 b1 W h0)
  clear h0
  go_wp2_with fail
  refine (K.out _).mono ?_
  rintro e W0 ⟨rfl, hb⟩
  have HR := hid (HR0.out.t hb)
  have hu : Blk W0 (w.heap.size + 1 + 1 + 1) 41 #[.int .i64 0, .int .i64 0, .int .i64 0] := HU0.out.t hb
  obtain ⟨⟨u0, u1, u2⟩, g0, g1, g2⟩ := hu.a3f
  have x0 := (HX.out.t hb).cell 0
  have HB := hid (bT HB1.out hb)
  generalize hv0 : O a1 b1 = v0 at *
  have HU := hid (hu.setJ 0 (.int .i64 v0))
  have HR := hid (HR.out.setO (show w.heap.size + 1 + 1 ≠ w.heap.size + 1 + 1 + 1 by omega) 0 (.int .i64 v0))
  have HB1 := hid (bS HB.out (p := ⟨w.heap.size + 1 + 1 + 1, 0, none⟩) (show w.heap.size ≤ w.heap.size + 1 + 1 + 1 by omega) (.int .i64 v0))
  have HQ0 := hid hv0
  clear hb hu K HB HX HR0 HU0 hv0
  go_wp2_with fail
  clear u0 u1 u2 g0 g1 g2 x0
  rw [rounds_succ]
  have hx1 := Blk.mk (W0.setCell ⟨w.heap.size + 1 + 1 + 1, 0, none⟩ (.int .i64 v0)) 264 #[.pointer (some ⟨w.heap.size + 1 + 1 + 1, 1, none⟩), .int .i64 a2, .int .i64 b2]
  have HR1 := hid (HR.out.alloc (.cells #[.pointer (some ⟨w.heap.size + 1 + 1 + 1, 1, none⟩), .int .i64 a2, .int .i64 b2] 264))
  have HU1 := hid (HU.out.alloc (.cells #[.pointer (some ⟨w.heap.size + 1 + 1 + 1, 1, none⟩), .int .i64 a2, .int .i64 b2] 264))
  have HB2 := hid (bA HB1.out (.cells #[.pointer (some ⟨w.heap.size + 1 + 1 + 1, 1, none⟩), .int .i64 a2, .int .i64 b2] 264))
  simp only [World.size_alloc, World.size_setCell] at hx1
  have HX := hid hx1
  clear hx1 HR HU
  cases h1 : okO O a2 b2
  ·
   have K := hid (fun W => hf a2 b2 W h1)
   have HE : Hid (re = 10) := he.out.trans (by unfold bEz bothOK; simp [h1])
   have HV : Hid (rv = bs0) := hv.out.trans (by unfold bothV bothOK; simp [h1])
   clear h1
   go_wp2_with fail
   refine (K.out _).mono ?_
   rintro e W ⟨rfl, hb⟩
   obtain ⟨⟨c0, c1, c2⟩, f0, f1, f2⟩ := (HR1.out.t hb).a3f
   have HBW := hid (bT HB2.out hb)
   clear hb K
   go_wp2_with fail
   refine bodyPost_ret (v := .tuple #[.agg #[.int .i64 0, .int .i64 0, .int .i64 0], .int .i64 10]) (by simp [results, results127, go_sem, c0, c1, c2]) rfl ⟨by rw [HE.out, HV.out] <;> rfl, ?_⟩
   exact bS (bS (bS HBW.out (show w.heap.size ≤ w.heap.size + 1 + 1 by omega) _) (show w.heap.size ≤ w.heap.size + 1 + 1 by omega) _) (show w.heap.size ≤ w.heap.size + 1 + 1 by omega) _
  have HH1 := hid h1
  have K := hid (fun W => hc a2 b2 W h1)
  clear h1
  go_wp2_with fail
  refine (K.out _).mono ?_
  rintro e W1 ⟨rfl, hb⟩
  have HR := hid (HR1.out.t hb)
  have hu : Blk W1 (w.heap.size + 1 + 1 + 1) 41 #[.int .i64 v0, .int .i64 0, .int .i64 0] := HU1.out.t hb
  obtain ⟨⟨u0, u1, u2⟩, g0, g1, g2⟩ := hu.a3f
  have x0 := (HX.out.t hb).cell 0
  have HB := hid (bT HB2.out hb)
  generalize hv1 : O a2 b2 = v1 at *
  have HU := hid (hu.setJ 1 (.int .i64 v1))
  have HR := hid (HR.out.setO (show w.heap.size + 1 + 1 ≠ w.heap.size + 1 + 1 + 1 by omega) 1 (.int .i64 v1))
  have HB2 := hid (bS HB.out (p := ⟨w.heap.size + 1 + 1 + 1, 1, none⟩) (show w.heap.size ≤ w.heap.size + 1 + 1 + 1 by omega) (.int .i64 v1))
  have HQ1 := hid hv1
  clear hb hu K HB HX HR1 HU1 hv1
  go_wp2_with fail
  clear u0 u1 u2 g0 g1 g2 x0
  rw [rounds_succ]
  have hx2 := Blk.mk (W1.setCell ⟨w.heap.size + 1 + 1 + 1, 1, none⟩ (.int .i64 v1)) 264 #[.pointer (some ⟨w.heap.size + 1 + 1 + 1, 2, none⟩), .int .i64 a3, .int .i64 b3]
  have HR2 := hid (HR.out.alloc (.cells #[.pointer (some ⟨w.heap.size + 1 + 1 + 1, 2, none⟩), .int .i64 a3, .int .i64 b3] 264))
  have HU2 := hid (HU.out.alloc (.cells #[.pointer (some ⟨w.heap.size + 1 + 1 + 1, 2, none⟩), .int .i64 a3, .int .i64 b3] 264))
  have HB3 := hid (bA HB2.out (.cells #[.pointer (some ⟨w.heap.size + 1 + 1 + 1, 2, none⟩), .int .i64 a3, .int .i64 b3] 264))
  simp only [World.size_alloc, World.size_setCell] at hx2
  have HX := hid hx2
  clear hx2 HR HU
  cases h2 : okO O a3 b3
  ·
   have K := hid (fun W => hf a3 b3 W h2)
   have HE : Hid (re = 10) := he.out.trans (by unfold bEz bothOK; simp [h2])
   have HV : Hid (rv = bs0) := hv.out.trans (by unfold bothV bothOK; simp [h2])
   clear h2
   go_wp2_with fail
   refine (K.out _).mono ?_
   rintro e W ⟨rfl, hb⟩
   obtain ⟨⟨c0, c1, c2⟩, f0, f1, f2⟩ := (HR2.out.t hb).a3f
   have HBW := hid (bT HB3.out hb)
   clear hb K
   go_wp2_with fail
   refine bodyPost_ret (v := .tuple #[.agg #[.int .i64 0, .int .i64 0, .int .i64 0], .int .i64 10]) (by simp [results, results127, go_sem, c0, c1, c2]) rfl ⟨by rw [HE.out, HV.out] <;> rfl, ?_⟩
   exact bS (bS (bS HBW.out (show w.heap.size ≤ w.heap.size + 1 + 1 by omega) _) (show w.heap.size ≤ w.heap.size + 1 + 1 by omega) _) (show w.heap.size ≤ w.heap.size + 1 + 1 by omega) _
  have HH2 := hid h2
  have K := hid (fun W => hc a3 b3 W h2)
  clear h2
  go_wp2_with fail
  refine (K.out _).mono ?_
  rintro e W2 ⟨rfl, hb⟩
  have HR := hid (HR2.out.t hb)
  have hu : Blk W2 (w.heap.size + 1 + 1 + 1) 41 #[.int .i64 v0, .int .i64 v1, .int .i64 0] := HU2.out.t hb
  obtain ⟨⟨u0, u1, u2⟩, g0, g1, g2⟩ := hu.a3f
  have x0 := (HX.out.t hb).cell 0
  have HB := hid (bT HB3.out hb)
  generalize hv2 : O a3 b3 = v2 at *
  have HU := hid (hu.setJ 2 (.int .i64 v2))
  have HR := hid (HR.out.setO (show w.heap.size + 1 + 1 ≠ w.heap.size + 1 + 1 + 1 by omega) 2 (.int .i64 v2))
  have HB3 := hid (bS HB.out (p := ⟨w.heap.size + 1 + 1 + 1, 2, none⟩) (show w.heap.size ≤ w.heap.size + 1 + 1 + 1 by omega) (.int .i64 v2))
  have HQ2 := hid hv2
  clear hb hu K HB HX HR2 HU2 hv2
  go_wp2_with fail
  clear u0 u1 u2 g0 g1 g2 x0
  rw [rounds_succ]
  obtain ⟨⟨c0, c1, c2⟩, f0, f1, f2⟩ := HR.out.a3f
  obtain ⟨⟨u0, u1, u2⟩, g0, g1, g2⟩ := HU.out.a3f
  have HE : Hid (re = 0) := he.out.trans (by unfold bEz bothOK; simp [HH0.out, HH1.out, HH2.out])
  have HV : Hid (rv = ⟨v0, v1, v2⟩) := hv.out.trans (by unfold bothV bothOK; simp [HH0.out, HH1.out, HH2.out, HQ0.out, HQ1.out, HQ2.out])
  go_wp2_with fail
  refine bodyPost_ret (v := .tuple #[.agg #[.int .i64 v0, .int .i64 v1, .int .i64 v2], .int .i64 0]) (by simp [results, results127, go_sem, c0, c1, c2]) rfl ⟨by rw [HE.out, HV.out], ?_⟩
  exact bS (bS (bS HB3.out (show w.heap.size ≤ w.heap.size + 1 + 1 by omega) _) (show w.heap.size ≤ w.heap.size + 1 + 1 by omega) _) (show w.heap.size ≤ w.heap.size + 1 + 1 by omega) _
theorem bboth_AddOp (a b : Bs) (w : World) (re : Int) (rv : Bs) (he : Hid (re = bEz Ao9 a b)) (hv : Hid (rv = bothV Ao9 a b)) :
  Calls prog 127 #[.agg #[.int .i64 a.c, .int .i64 a.t, .int .i64 a.s], .agg #[.int .i64 b.c, .int .i64 b.t, .int .i64 b.s], .func (.func 124) #[] #[]] w fun e w' => e = .returned (.tuple #[.agg #[.int .i64 rv.c, .int .i64 rv.t, .int .i64 rv.s], .int .i64 re]) ∧ Below w.heap.size w w' := bboth_g Ao9 _ (by decide) AddOp_c AddOp_f a b w re rv he hv
theorem bboth_SubOp (a b : Bs) (w : World) (re : Int) (rv : Bs) (he : Hid (re = bEz So9 a b)) (hv : Hid (rv = bothV So9 a b)) :
  Calls prog 127 #[.agg #[.int .i64 a.c, .int .i64 a.t, .int .i64 a.s], .agg #[.int .i64 b.c, .int .i64 b.t, .int .i64 b.s], .func (.func 92) #[] #[]] w fun e w' => e = .returned (.tuple #[.agg #[.int .i64 rv.c, .int .i64 rv.t, .int .i64 rv.s], .int .i64 re]) ∧ Below w.heap.size w w' := bboth_g So9 _ (by decide) SubOp_c SubOp_f a b w re rv he hv
theorem bAdd_c (a b : Bs) (w : World) (re : Int) (rv : Bs) (he : Hid (re = bEz Ao9 a b)) (hv : Hid (rv = bothV Ao9 a b)) :
  Calls prog 123 #[.agg #[.int .i64 a.c, .int .i64 a.t, .int .i64 a.s], .agg #[.int .i64 b.c, .int .i64 b.t, .int .i64 b.s]] w fun e w' => e = .returned (.tuple #[.agg #[.int .i64 rv.c, .int .i64 rv.t, .int .i64 rv.s], .int .i64 re]) ∧ Below w.heap.size w w' := by
 have K := hid (fun W => bboth_AddOp a b W re rv he hv)
 obtain ⟨a1, a2, a3⟩ := a
 obtain ⟨b1, b2, b3⟩ := b
 obtain ⟨v1, v2, v3⟩ := rv
 dsimp only at K ⊢
 clear he hv
 have r0 := Blk.mk ((w.alloc (.cells #[.int .i64 a1, .int .i64 a2, .int .i64 a3] 41)).alloc (.cells #[.int .i64 b1, .int .i64 b2, .int .i64 b3] 41)) 41 #[.int .i64 0, .int .i64 0, .int .i64 0]
 simp only [World.size_alloc] at r0
 have HR := hid r0
 have HB : Hid (Below w.heap.size w (((w.alloc (.cells #[.int .i64 a1, .int .i64 a2, .int .i64 a3] 41)).alloc (.cells #[.int .i64 b1, .int .i64 b2, .int .i64 b3] 41)).alloc (.cells #[.int .i64 0, .int .i64 0, .int .i64 0] 41))) := bA (bA (bz1 w _) _) _
 clear r0
 go_enter func123, ntmps123
 go_wp2_with fail
 refine (K.out _).mono ?_
 rintro e W ⟨rfl, hb⟩
 obtain ⟨⟨c0, c1, c2⟩, f0, f1, f2⟩ := (HR.out.t hb).a3f
 have HBW := hid (bT HB.out hb)
 clear hb K HR
 go_wp2_with fail
 refine bodyPost_ret (v := .tuple #[.agg #[.int .i64 v1, .int .i64 v2, .int .i64 v3], .int .i64 re]) (by simp [results, results123, go_sem, c0, c1, c2]) rfl ⟨rfl, ?_⟩
 exact bS (bS (bS HBW.out (show w.heap.size ≤ w.heap.size + 1 + 1 by omega) _) (show w.heap.size ≤ w.heap.size + 1 + 1 by omega) _) (show w.heap.size ≤ w.heap.size + 1 + 1 by omega) _
theorem bSub_c (a b : Bs) (w : World) (re : Int) (rv : Bs) (he : Hid (re = bEz So9 a b)) (hv : Hid (rv = bothV So9 a b)) :
  Calls prog 85 #[.agg #[.int .i64 a.c, .int .i64 a.t, .int .i64 a.s], .agg #[.int .i64 b.c, .int .i64 b.t, .int .i64 b.s]] w fun e w' => e = .returned (.tuple #[.agg #[.int .i64 rv.c, .int .i64 rv.t, .int .i64 rv.s], .int .i64 re]) ∧ Below w.heap.size w w' := by
 have K := hid (fun W => bboth_SubOp a b W re rv he hv)
 obtain ⟨a1, a2, a3⟩ := a
 obtain ⟨b1, b2, b3⟩ := b
 obtain ⟨v1, v2, v3⟩ := rv
 dsimp only at K ⊢
 clear he hv
 have r0 := Blk.mk ((w.alloc (.cells #[.int .i64 a1, .int .i64 a2, .int .i64 a3] 41)).alloc (.cells #[.int .i64 b1, .int .i64 b2, .int .i64 b3] 41)) 41 #[.int .i64 0, .int .i64 0, .int .i64 0]
 simp only [World.size_alloc] at r0
 have HR := hid r0
 have HB : Hid (Below w.heap.size w (((w.alloc (.cells #[.int .i64 a1, .int .i64 a2, .int .i64 a3] 41)).alloc (.cells #[.int .i64 b1, .int .i64 b2, .int .i64 b3] 41)).alloc (.cells #[.int .i64 0, .int .i64 0, .int .i64 0] 41))) := bA (bA (bz1 w _) _) _
 clear r0
 go_enter func85, ntmps85
 go_wp2_with fail
 refine (K.out _).mono ?_
 rintro e W ⟨rfl, hb⟩
 obtain ⟨⟨c0, c1, c2⟩, f0, f1, f2⟩ := (HR.out.t hb).a3f
 have HBW := hid (bT HB.out hb)
 clear hb K HR
 go_wp2_with fail
 refine bodyPost_ret (v := .tuple #[.agg #[.int .i64 v1, .int .i64 v2, .int .i64 v3], .int .i64 re]) (by simp [results, results85, go_sem, c0, c1, c2]) rfl ⟨rfl, ?_⟩
 exact bS (bS (bS HBW.out (show w.heap.size ≤ w.heap.size + 1 + 1 by omega) _) (show w.heap.size ≤ w.heap.size + 1 + 1 by omega) _) (show w.heap.size ≤ w.heap.size + 1 + 1 by omega) _
theorem bMore_c (a : Bs) (g : Int) (w : World) (re : Int) (rv : Bs) (he : Hid (re = bEz Ao9 a ⟨g, g, g⟩)) (hv : Hid (rv = bothV Ao9 a ⟨g, g, g⟩)) :
  Calls prog 80 #[.agg #[.int .i64 a.c, .int .i64 a.t, .int .i64 a.s], .int .i64 g] w fun e w' => e = .returned (.tuple #[.agg #[.int .i64 rv.c, .int .i64 rv.t, .int .i64 rv.s], .int .i64 re]) ∧ Below w.heap.size w w' := by
 have K := hid (fun W => bAdd_c a ⟨g, g, g⟩ W re rv he hv)
 obtain ⟨a1, a2, a3⟩ := a
 obtain ⟨v1, v2, v3⟩ := rv
 dsimp only at K ⊢
 clear he hv
 have r0 := Blk.mk (w.alloc (.cells #[.int .i64 a1, .int .i64 a2, .int .i64 a3] 41)) 41 #[.int .i64 0, .int .i64 0, .int .i64 0]
 simp only [World.size_alloc] at r0
 have HR := hid r0
 have HB : Hid (Below w.heap.size w ((w.alloc (.cells #[.int .i64 a1, .int .i64 a2, .int .i64 a3] 41)).alloc (.cells #[.int .i64 0, .int .i64 0, .int .i64 0] 41))) := bA (bz1 w _) _
 clear r0
 go_enter func80, ntmps80
 go_wp2_with fail
 refine (K.out _).mono ?_
 rintro e W ⟨rfl, hb⟩
 obtain ⟨⟨c0, c1, c2⟩, f0, f1, f2⟩ := (HR.out.t hb).a3f
 have HBW := hid (bT HB.out hb)
 clear hb K HR
 go_wp2_with fail
 refine bodyPost_ret (v := .tuple #[.agg #[.int .i64 v1, .int .i64 v2, .int .i64 v3], .int .i64 re]) (by simp [results, results80, go_sem, c0, c1, c2]) rfl ⟨rfl, ?_⟩
 exact bS (bS (bS HBW.out (Nat.le_succ _) _) (Nat.le_succ _) _) (Nat.le_succ _) _
end Go.Proofs.YtiaabmhjkoohmaaGreat
