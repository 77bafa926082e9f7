/-
  Contract of order.Parse. Conditions as named.
-/
import Derived.Test.YtfhbnojhmeodiaaDoorOrdW
import Derived.Test.YtfhbnojhmeodiaaDoorInt
import Derived.Test.YtfhbnojhmeodiaaDoorParse2
namespace Go.Proofs.YtfhbnojhmeodiaaDoor
set_option linter.unusedVariables false
open Go.RowKit
/-- one word of an order: why it is none, and what it is -/
def pwE (k : Nat) (s : ByteArray) : Int := if k = 2 ∨ k = 4 then parseE s.data.toList else inE s.data.toList
def pwV (k : Nat) (s : ByteArray) : Int := if k = 2 ∨ k = 4 then parseV s.data.toList else inV s.data.toList
/-- the first error among k words -/
def opF (L : List ByteArray) : Nat → Int
  | 0 => 0
  | k + 1 => if opF L k ≠ 0 then opF L k else pwE k (L.getD k st0)
theorem opF_stick (L : List ByteArray) (k : Nat) (h : opF L k ≠ 0) : ∀ n, k ≤ n → opF L n = opF L k := by
  intro n
  induction n with
  | zero => intro hk; obtain rfl : k = 0 := by omega
            rfl
  | succ n ih =>
    intro hk
    rcases (by omega : k = n + 1 ∨ k ≤ n) with rfl | hk
    · rfl
    · have e := ih hk
      rw [opF, e, if_pos h]
def opV (L : List ByteArray) (k : Nat) : Int := pwV k (L.getD k st0)
def opE (n : Nat) (L : List ByteArray) : Int := if n ≠ 5 then 5 else if opF L 5 ≠ 0 then opF L 5 else orE (opV L 0) (opV L 1) (opV L 2) (opV L 3) (opV L 4)
def OParR (n : Nat) (L : List ByteArray) (w : World) (e : Ending) (w' : World) : Prop :=
  ((opE n L ≠ 0 ∧ e = .returned (.tuple #[.agg #[.int .i64 0, .int .i64 0, .int .i64 0, .int .i64 0, .int .i64 0], .int .i64 (opE n L)])) ∨ (opE n L = 0 ∧ e = .returned (.tuple #[.agg #[.int .i64 (opV L 0), .int .i64 (opV L 1), .int .i64 (opV L 2), .int .i64 (opV L 3), .int .i64 (opV L 4)], .int .i64 0]))) ∧ Below w.heap.size w w'
theorem Blk.a5f {w : World} {g : Nat} {t : TypeId} {a b c d e : Value} (h : Blk w g t #[a, b, c, d, e]) : (w.cell? ⟨g, 0, none⟩ = some a ∧ w.cell? ⟨g, 1, none⟩ = some b ∧ w.cell? ⟨g, 2, none⟩ = some c ∧ w.cell? ⟨g, 3, none⟩ = some d ∧ w.cell? ⟨g, 4, none⟩ = some e) ∧
    w.frozen? ⟨g, 0, none⟩ = false ∧ w.frozen? ⟨g, 1, none⟩ = false ∧ w.frozen? ⟨g, 2, none⟩ = false ∧ w.frozen? ⟨g, 3, none⟩ = false ∧ w.frozen? ⟨g, 4, none⟩ = false :=
  ⟨⟨h.cell 0, h.cell 1, h.cell 2, h.cell 3, h.cell 4⟩, h.free 0, h.free 1, h.free 2, h.free 3, h.free 4⟩
theorem Blk.setq {w : World} {g : Nat} {t : TypeId} {cs : Array Value} (hb : Blk w g t cs) (i : Nat) (v : Value) : Blk (w.setCell ⟨g, i, none⟩ v) g t (cs.setIfInBounds i v) := heap_setCell_same w g i cs t v hb
theorem oparse_n (A : Option Addr) (n c : Nat) (L : List ByteArray) (w : World) (h5 : n ≠ 5) (h9 : n ≤ 9223372036854775807) : Calls Tryd.prog 21 #[.slice A n c] w (OParR n L w) := by
  have v : ((n : Int) != 5) = true := by simp; omega
  have hb0 := below1 w (.cells #[.int .i64 0, .int .i64 0, .int .i64 0, .int .i64 0, .int .i64 0] 29)
  have y := Blk.mk w 29 #[.int .i64 0, .int .i64 0, .int .i64 0, .int .i64 0, .int .i64 0]
  obtain ⟨⟨q0, q1, q2, q3, q4⟩, f0, f1, f2, f3, f4⟩ := y.a5f
  have HE : Hid (opE n L = 5) := if_pos h5
  clear h5
  go_enter Tryd.func21, Tryd.ntmps21
  go_wp2_with fail
  refine bodyPost_ret (v := .tuple #[.agg #[.int .i64 0, .int .i64 0, .int .i64 0, .int .i64 0, .int .i64 0], .int .i64 5]) (by simp [results, Tryd.results21, go_sem, q0, q1, q2, q3, q4]) rfl ⟨Or.inl ⟨by rw [HE.out]; decide, by rw [HE.out]⟩, ?_⟩
  exact hb0
--%%
def ocl (L : List ByteArray) (k j : Nat) : Int := if j < k then opV L j else 0
theorem ocl_at (L : List ByteArray) (k : Nat) : ocl L (k + 1) k = opV L k := by simp [ocl]
theorem ocl_other (L : List ByteArray) (k j : Nat) (h : j ≠ k) : ocl L (k + 1) j = ocl L k j := by
  unfold ocl
  by_cases h1 : j < k
  · rw [if_pos h1, if_pos (by omega)]
  · rw [if_neg h1, if_neg (by omega)]
set_option maxRecDepth 100000 in
set_option maxHeartbeats 3200000 in
theorem oparse_5 (A : Option Addr) (c : Nat) (L : List ByteArray) (w : World) (hl : StSl w A 5 L) (hs : ∀ k, k < 5 → (L.getD k st0).size ≤ 1000000) : Calls Tryd.prog 21 #[.slice A 5 c] w (OParR 5 L w) := by
  have HL := Lib.hid hl
  have HS := Lib.hid hs
  clear hl hs
  go_enter Tryd.func21, Tryd.ntmps21
  go_wp2_with fail
  go_loopw [26] (fun ci wr => ∃ k : Nat, ∃ q : Int, q = k ∧ k ≤ 5 ∧ ci = .int .i64 q ∧ Hid (opF L k = 0) ∧ Blk wr (w.heap.size + 1) 29 #[.int .i64 (ocl L k 0), .int .i64 (ocl L k 1), .int .i64 (ocl L k 2), .int .i64 (ocl L k 3), .int .i64 (ocl L k 4)] ∧ Blk wr w.heap.size 29 #[.int .i64 0, .int .i64 0, .int .i64 0, .int .i64 0, .int .i64 0] ∧ Below w.heap.size w wr) (fun ci _ => 5 - (intOf ci).toNat)
  case atStart =>
    have hb0 := below1 w (.cells #[.int .i64 0, .int .i64 0, .int .i64 0, .int .i64 0, .int .i64 0] 29)
    have y := Blk.mk w 29 #[.int .i64 0, .int .i64 0, .int .i64 0, .int .i64 0, .int .i64 0]
    have z := Blk.mk (w.alloc (.cells #[.int .i64 0, .int .i64 0, .int .i64 0, .int .i64 0, .int .i64 0] 29)) 29 #[.int .i64 0, .int .i64 0, .int .i64 0, .int .i64 0, .int .i64 0]
    rw [World.size_alloc] at z
    exact ⟨0, 0, rfl, by decide, rfl, rfl, z, y.alloc _, bA hb0 _⟩
  case round =>
    obtain ⟨k, q, hq, hk', rfl, HF, hy, hz, hbl⟩ := hrel
    rcases (by omega : k = 0 ∨ k = 1 ∨ k = 2 ∨ k = 3 ∨ k = 4 ∨ k = 5) with rfl | rfl | rfl | rfl | rfl | rfl
    --GEN
    · have i0 : ∀ (a b c d e : Value) W, (Instr.index 87 (.agg #[a, b, c, d, e]) (.int .i64 0)).run Tryd.prog W = .ok a W := fun _ _ _ _ _ _ => by kernel_rfl
      have a0 : ∀ v W, (Instr.typeAssert (.iface 85 v) 20 85 true).run Tryd.prog W = .ok (.tuple #[v, .bool true]) W := fun _ _ => by kernel_rfl
      have a1 : ∀ v W, (Instr.typeAssert (.iface 86 v) 20 85 true).run Tryd.prog W = .ok (.tuple #[.pointer none, .bool false]) W := fun _ _ => by kernel_rfl
      have a2 : ∀ v W, (Instr.typeAssert (.iface 86 v) 20 86 true).run Tryd.prog W = .ok (.tuple #[v, .bool true]) W := fun _ _ => by kernel_rfl
      obtain rfl : q = 0 := by omega
      have HY := Lib.hid hy
      have HYQ : Hid (∀ W, Blk W (w.heap.size + 1) 29 #[.int .i64 (ocl L 0 0), .int .i64 (ocl L 0 1), .int .i64 (ocl L 0 2), .int .i64 (ocl L 0 3), .int .i64 (ocl L 0 4)] → Blk (W.setCell ⟨w.heap.size + 1, 0, none⟩ (.int .i64 (opV L 0))) (w.heap.size + 1) 29 #[.int .i64 (ocl L 1 0), .int .i64 (ocl L 1 1), .int .i64 (ocl L 1 2), .int .i64 (ocl L 1 3), .int .i64 (ocl L 1 4)]) := fun W h => by
        rw [ocl_at L 0, ocl_other L 0 1 (by decide), ocl_other L 0 2 (by decide), ocl_other L 0 3 (by decide), ocl_other L 0 4 (by decide)]
        simpa using Blk.setq h 0 (.int .i64 (opV L 0))
      obtain ⟨re, hre⟩ : ∃ r, r = pwE 0 (L.getD 0 st0) := ⟨_, rfl⟩
      obtain ⟨rv, hrv⟩ : ∃ r, r = opV L 0 := ⟨_, rfl⟩
      have KP := Lib.hid (fun W => int_c (L.getD 0 st0) W (HS.out 0 (by decide)) rv re (by rw [hrv]; rfl) (by rw [hre]; rfl))
      have HE : Hid (opF L 1 = re) := by unfold Hid; rw [opF, if_neg (by rw [HF.out]; decide), hre]
      rw [← hrv] at HYQ
      obtain ⟨bs, off, rfl, hltb, hat⟩ := (HL.out.below hbl).2.2 (by decide)
      have d0 : wr.cell? ⟨bs, off, none⟩ = some (.string (L.getD 0 st0)) := by have := hat 0 (by decide) 0 _ rfl; simpa using this
      have HZ := Lib.hid hz
      have hyl := hy.lt
      have HBL := Lib.hid hbl
      clear hy hat hrv hre hz hbl hq
      generalize L.getD 0 st0 = sq at *
      go_wp2_with fail
      refine (KP.out _).mono ?_
      rintro e w2 ⟨rfl, hb3⟩
      have hy2 := HY.out.t hb3
      have hz2 := HZ.out.t hb3
      have hz3 := Blk.far hz2 (a := ⟨w.heap.size + 1, 0, none⟩) (by show w.heap.size ≠ w.heap.size + 1; omega) (.int .i64 rv)
      have hb4 := bS (p := ⟨w.heap.size + 1, 0, none⟩) (bT HBL.out hb3) (by show w.heap.size ≤ w.heap.size + 1; omega) (.int .i64 rv)
      have HY3 := Lib.hid (HYQ.out w2 hy2)
      have HZ3 := Lib.hid hz3
      have HB4 := Lib.hid hb4
      obtain ⟨⟨y0, y1, y2, y3, y4⟩, g0, g1, g2, g3, g4⟩ := hy2.a5f
      obtain ⟨⟨z0, z1, z2, z3, z4⟩, f0, f1, f2, f3, f4⟩ := hz3.a5f
      clear hy2 hz2 hz3 hb4
      by_cases h0 : re = 0
      · subst h0
        go_wp2_with fail
        go_roundw
        case rel => exact ⟨1, _, rfl, by decide, by go_num, HE.out, HY3.out, HZ3.out, HB4.out⟩
        case measure => simp [intOf]
      · have v : (re != 0) = true := by simpa using h0
        have HEE : Hid (opE 5 L = re) := by
          have e5 := opF_stick L 1 (by rw [HE.out]; exact h0) 5 (by decide)
          unfold Hid opE
          rw [if_neg (fun h => h rfl), e5, HE.out, if_pos h0]
        have H0 := Lib.hid h0
        clear h0
        go_wp2_with fail
        refine bodyPost_ret (v := .tuple #[.agg #[.int .i64 0, .int .i64 0, .int .i64 0, .int .i64 0, .int .i64 0], .int .i64 re]) (by simp [results, Tryd.results21, go_sem, z0, z1, z2, z3, z4]) rfl ⟨Or.inl ⟨by rw [HEE.out]; exact H0.out, by rw [HEE.out]⟩, ?_⟩
        exact bS (bS (bS (bS (bS HB4.out (Nat.le_refl _) _) (Nat.le_refl _) _) (Nat.le_refl _) _) (Nat.le_refl _) _) (Nat.le_refl _) _
    · have i0 : ∀ (a b c d e : Value) W, (Instr.index 87 (.agg #[a, b, c, d, e]) (.int .i64 1)).run Tryd.prog W = .ok b W := fun _ _ _ _ _ _ => by kernel_rfl
      have a0 : ∀ v W, (Instr.typeAssert (.iface 85 v) 20 85 true).run Tryd.prog W = .ok (.tuple #[v, .bool true]) W := fun _ _ => by kernel_rfl
      have a1 : ∀ v W, (Instr.typeAssert (.iface 86 v) 20 85 true).run Tryd.prog W = .ok (.tuple #[.pointer none, .bool false]) W := fun _ _ => by kernel_rfl
      have a2 : ∀ v W, (Instr.typeAssert (.iface 86 v) 20 86 true).run Tryd.prog W = .ok (.tuple #[v, .bool true]) W := fun _ _ => by kernel_rfl
      obtain rfl : q = 1 := by omega
      have HY := Lib.hid hy
      have HYQ : Hid (∀ W, Blk W (w.heap.size + 1) 29 #[.int .i64 (ocl L 1 0), .int .i64 (ocl L 1 1), .int .i64 (ocl L 1 2), .int .i64 (ocl L 1 3), .int .i64 (ocl L 1 4)] → Blk (W.setCell ⟨w.heap.size + 1, 1, none⟩ (.int .i64 (opV L 1))) (w.heap.size + 1) 29 #[.int .i64 (ocl L 2 0), .int .i64 (ocl L 2 1), .int .i64 (ocl L 2 2), .int .i64 (ocl L 2 3), .int .i64 (ocl L 2 4)]) := fun W h => by
        rw [ocl_other L 1 0 (by decide), ocl_at L 1, ocl_other L 1 2 (by decide), ocl_other L 1 3 (by decide), ocl_other L 1 4 (by decide)]
        simpa using Blk.setq h 1 (.int .i64 (opV L 1))
      obtain ⟨re, hre⟩ : ∃ r, r = pwE 1 (L.getD 1 st0) := ⟨_, rfl⟩
      obtain ⟨rv, hrv⟩ : ∃ r, r = opV L 1 := ⟨_, rfl⟩
      have KP := Lib.hid (fun W => int_c (L.getD 1 st0) W (HS.out 1 (by decide)) rv re (by rw [hrv]; rfl) (by rw [hre]; rfl))
      have HE : Hid (opF L 2 = re) := by unfold Hid; rw [opF, if_neg (by rw [HF.out]; decide), hre]
      rw [← hrv] at HYQ
      obtain ⟨bs, off, rfl, hltb, hat⟩ := (HL.out.below hbl).2.2 (by decide)
      have d0 : wr.cell? ⟨bs, off + 1, none⟩ = some (.string (L.getD 1 st0)) := by have := hat 1 (by decide) 0 _ rfl; simpa using this
      have HZ := Lib.hid hz
      have hyl := hy.lt
      have HBL := Lib.hid hbl
      clear hy hat hrv hre hz hbl hq
      generalize L.getD 1 st0 = sq at *
      go_wp2_with fail
      refine (KP.out _).mono ?_
      rintro e w2 ⟨rfl, hb3⟩
      have hy2 := HY.out.t hb3
      have hz2 := HZ.out.t hb3
      have hz3 := Blk.far hz2 (a := ⟨w.heap.size + 1, 1, none⟩) (by show w.heap.size ≠ w.heap.size + 1; omega) (.int .i64 rv)
      have hb4 := bS (p := ⟨w.heap.size + 1, 1, none⟩) (bT HBL.out hb3) (by show w.heap.size ≤ w.heap.size + 1; omega) (.int .i64 rv)
      have HY3 := Lib.hid (HYQ.out w2 hy2)
      have HZ3 := Lib.hid hz3
      have HB4 := Lib.hid hb4
      obtain ⟨⟨y0, y1, y2, y3, y4⟩, g0, g1, g2, g3, g4⟩ := hy2.a5f
      obtain ⟨⟨z0, z1, z2, z3, z4⟩, f0, f1, f2, f3, f4⟩ := hz3.a5f
      clear hy2 hz2 hz3 hb4
      by_cases h0 : re = 0
      · subst h0
        go_wp2_with fail
        go_roundw
        case rel => exact ⟨2, _, rfl, by decide, by go_num, HE.out, HY3.out, HZ3.out, HB4.out⟩
        case measure => simp [intOf]
      · have v : (re != 0) = true := by simpa using h0
        have HEE : Hid (opE 5 L = re) := by
          have e5 := opF_stick L 2 (by rw [HE.out]; exact h0) 5 (by decide)
          unfold Hid opE
          rw [if_neg (fun h => h rfl), e5, HE.out, if_pos h0]
        have H0 := Lib.hid h0
        clear h0
        go_wp2_with fail
        refine bodyPost_ret (v := .tuple #[.agg #[.int .i64 0, .int .i64 0, .int .i64 0, .int .i64 0, .int .i64 0], .int .i64 re]) (by simp [results, Tryd.results21, go_sem, z0, z1, z2, z3, z4]) rfl ⟨Or.inl ⟨by rw [HEE.out]; exact H0.out, by rw [HEE.out]⟩, ?_⟩
        exact bS (bS (bS (bS (bS HB4.out (Nat.le_refl _) _) (Nat.le_refl _) _) (Nat.le_refl _) _) (Nat.le_refl _) _) (Nat.le_refl _) _
    · have i0 : ∀ (a b c d e : Value) W, (Instr.index 87 (.agg #[a, b, c, d, e]) (.int .i64 2)).run Tryd.prog W = .ok c W := fun _ _ _ _ _ _ => by kernel_rfl
      have a0 : ∀ v W, (Instr.typeAssert (.iface 85 v) 20 85 true).run Tryd.prog W = .ok (.tuple #[v, .bool true]) W := fun _ _ => by kernel_rfl
      have a1 : ∀ v W, (Instr.typeAssert (.iface 86 v) 20 85 true).run Tryd.prog W = .ok (.tuple #[.pointer none, .bool false]) W := fun _ _ => by kernel_rfl
      have a2 : ∀ v W, (Instr.typeAssert (.iface 86 v) 20 86 true).run Tryd.prog W = .ok (.tuple #[v, .bool true]) W := fun _ _ => by kernel_rfl
      obtain rfl : q = 2 := by omega
      have HY := Lib.hid hy
      have HYQ : Hid (∀ W, Blk W (w.heap.size + 1) 29 #[.int .i64 (ocl L 2 0), .int .i64 (ocl L 2 1), .int .i64 (ocl L 2 2), .int .i64 (ocl L 2 3), .int .i64 (ocl L 2 4)] → Blk (W.setCell ⟨w.heap.size + 1, 2, none⟩ (.int .i64 (opV L 2))) (w.heap.size + 1) 29 #[.int .i64 (ocl L 3 0), .int .i64 (ocl L 3 1), .int .i64 (ocl L 3 2), .int .i64 (ocl L 3 3), .int .i64 (ocl L 3 4)]) := fun W h => by
        rw [ocl_other L 2 0 (by decide), ocl_other L 2 1 (by decide), ocl_at L 2, ocl_other L 2 3 (by decide), ocl_other L 2 4 (by decide)]
        simpa using Blk.setq h 2 (.int .i64 (opV L 2))
      obtain ⟨re, hre⟩ : ∃ r, r = pwE 2 (L.getD 2 st0) := ⟨_, rfl⟩
      obtain ⟨rv, hrv⟩ : ∃ r, r = opV L 2 := ⟨_, rfl⟩
      have KP := Lib.hid (fun W => parse_c (L.getD 2 st0) W (by have := HS.out 2 (by decide); omega) rv re (by rw [hrv]; rfl) (by rw [hre]; rfl))
      have HE : Hid (opF L 3 = re) := by unfold Hid; rw [opF, if_neg (by rw [HF.out]; decide), hre]
      rw [← hrv] at HYQ
      obtain ⟨bs, off, rfl, hltb, hat⟩ := (HL.out.below hbl).2.2 (by decide)
      have d0 : wr.cell? ⟨bs, off + 2, none⟩ = some (.string (L.getD 2 st0)) := by have := hat 2 (by decide) 0 _ rfl; simpa using this
      have HZ := Lib.hid hz
      have hyl := hy.lt
      have HBL := Lib.hid hbl
      clear hy hat hrv hre hz hbl hq
      generalize L.getD 2 st0 = sq at *
      go_wp2_with fail
      refine (KP.out _).mono ?_
      rintro e w2 ⟨rfl, hb3⟩
      have hy2 := HY.out.t hb3
      have hz2 := HZ.out.t hb3
      have hz3 := Blk.far hz2 (a := ⟨w.heap.size + 1, 2, none⟩) (by show w.heap.size ≠ w.heap.size + 1; omega) (.int .i64 rv)
      have hb4 := bS (p := ⟨w.heap.size + 1, 2, none⟩) (bT HBL.out hb3) (by show w.heap.size ≤ w.heap.size + 1; omega) (.int .i64 rv)
      have HY3 := Lib.hid (HYQ.out w2 hy2)
      have HZ3 := Lib.hid hz3
      have HB4 := Lib.hid hb4
      obtain ⟨⟨y0, y1, y2, y3, y4⟩, g0, g1, g2, g3, g4⟩ := hy2.a5f
      obtain ⟨⟨z0, z1, z2, z3, z4⟩, f0, f1, f2, f3, f4⟩ := hz3.a5f
      clear hy2 hz2 hz3 hb4
      by_cases h0 : re = 0
      · subst h0
        go_wp2_with fail
        go_roundw
        case rel => exact ⟨3, _, rfl, by decide, by go_num, HE.out, HY3.out, HZ3.out, HB4.out⟩
        case measure => simp [intOf]
      · have v : (re != 0) = true := by simpa using h0
        have HEE : Hid (opE 5 L = re) := by
          have e5 := opF_stick L 3 (by rw [HE.out]; exact h0) 5 (by decide)
          unfold Hid opE
          rw [if_neg (fun h => h rfl), e5, HE.out, if_pos h0]
        have H0 := Lib.hid h0
        clear h0
        go_wp2_with fail
        refine bodyPost_ret (v := .tuple #[.agg #[.int .i64 0, .int .i64 0, .int .i64 0, .int .i64 0, .int .i64 0], .int .i64 re]) (by simp [results, Tryd.results21, go_sem, z0, z1, z2, z3, z4]) rfl ⟨Or.inl ⟨by rw [HEE.out]; exact H0.out, by rw [HEE.out]⟩, ?_⟩
        exact bS (bS (bS (bS (bS HB4.out (Nat.le_refl _) _) (Nat.le_refl _) _) (Nat.le_refl _) _) (Nat.le_refl _) _) (Nat.le_refl _) _
    · have i0 : ∀ (a b c d e : Value) W, (Instr.index 87 (.agg #[a, b, c, d, e]) (.int .i64 3)).run Tryd.prog W = .ok d W := fun _ _ _ _ _ _ => by kernel_rfl
      have a0 : ∀ v W, (Instr.typeAssert (.iface 85 v) 20 85 true).run Tryd.prog W = .ok (.tuple #[v, .bool true]) W := fun _ _ => by kernel_rfl
      have a1 : ∀ v W, (Instr.typeAssert (.iface 86 v) 20 85 true).run Tryd.prog W = .ok (.tuple #[.pointer none, .bool false]) W := fun _ _ => by kernel_rfl
      have a2 : ∀ v W, (Instr.typeAssert (.iface 86 v) 20 86 true).run Tryd.prog W = .ok (.tuple #[v, .bool true]) W := fun _ _ => by kernel_rfl
      obtain rfl : q = 3 := by omega
      have HY := Lib.hid hy
      have HYQ : Hid (∀ W, Blk W (w.heap.size + 1) 29 #[.int .i64 (ocl L 3 0), .int .i64 (ocl L 3 1), .int .i64 (ocl L 3 2), .int .i64 (ocl L 3 3), .int .i64 (ocl L 3 4)] → Blk (W.setCell ⟨w.heap.size + 1, 3, none⟩ (.int .i64 (opV L 3))) (w.heap.size + 1) 29 #[.int .i64 (ocl L 4 0), .int .i64 (ocl L 4 1), .int .i64 (ocl L 4 2), .int .i64 (ocl L 4 3), .int .i64 (ocl L 4 4)]) := fun W h => by
        rw [ocl_other L 3 0 (by decide), ocl_other L 3 1 (by decide), ocl_other L 3 2 (by decide), ocl_at L 3, ocl_other L 3 4 (by decide)]
        simpa using Blk.setq h 3 (.int .i64 (opV L 3))
      obtain ⟨re, hre⟩ : ∃ r, r = pwE 3 (L.getD 3 st0) := ⟨_, rfl⟩
      obtain ⟨rv, hrv⟩ : ∃ r, r = opV L 3 := ⟨_, rfl⟩
      have KP := Lib.hid (fun W => int_c (L.getD 3 st0) W (HS.out 3 (by decide)) rv re (by rw [hrv]; rfl) (by rw [hre]; rfl))
      have HE : Hid (opF L 4 = re) := by unfold Hid; rw [opF, if_neg (by rw [HF.out]; decide), hre]
      rw [← hrv] at HYQ
      obtain ⟨bs, off, rfl, hltb, hat⟩ := (HL.out.below hbl).2.2 (by decide)
      have d0 : wr.cell? ⟨bs, off + 3, none⟩ = some (.string (L.getD 3 st0)) := by have := hat 3 (by decide) 0 _ rfl; simpa using this
      have HZ := Lib.hid hz
      have hyl := hy.lt
      have HBL := Lib.hid hbl
      clear hy hat hrv hre hz hbl hq
      generalize L.getD 3 st0 = sq at *
      go_wp2_with fail
      refine (KP.out _).mono ?_
      rintro e w2 ⟨rfl, hb3⟩
      have hy2 := HY.out.t hb3
      have hz2 := HZ.out.t hb3
      have hz3 := Blk.far hz2 (a := ⟨w.heap.size + 1, 3, none⟩) (by show w.heap.size ≠ w.heap.size + 1; omega) (.int .i64 rv)
      have hb4 := bS (p := ⟨w.heap.size + 1, 3, none⟩) (bT HBL.out hb3) (by show w.heap.size ≤ w.heap.size + 1; omega) (.int .i64 rv)
      have HY3 := Lib.hid (HYQ.out w2 hy2)
      have HZ3 := Lib.hid hz3
      have HB4 := Lib.hid hb4
      obtain ⟨⟨y0, y1, y2, y3, y4⟩, g0, g1, g2, g3, g4⟩ := hy2.a5f
      obtain ⟨⟨z0, z1, z2, z3, z4⟩, f0, f1, f2, f3, f4⟩ := hz3.a5f
      clear hy2 hz2 hz3 hb4
      by_cases h0 : re = 0
      · subst h0
        go_wp2_with fail
        go_roundw
        case rel => exact ⟨4, _, rfl, by decide, by go_num, HE.out, HY3.out, HZ3.out, HB4.out⟩
        case measure => simp [intOf]
      · have v : (re != 0) = true := by simpa using h0
        have HEE : Hid (opE 5 L = re) := by
          have e5 := opF_stick L 4 (by rw [HE.out]; exact h0) 5 (by decide)
          unfold Hid opE
          rw [if_neg (fun h => h rfl), e5, HE.out, if_pos h0]
        have H0 := Lib.hid h0
        clear h0
        go_wp2_with fail
        refine bodyPost_ret (v := .tuple #[.agg #[.int .i64 0, .int .i64 0, .int .i64 0, .int .i64 0, .int .i64 0], .int .i64 re]) (by simp [results, Tryd.results21, go_sem, z0, z1, z2, z3, z4]) rfl ⟨Or.inl ⟨by rw [HEE.out]; exact H0.out, by rw [HEE.out]⟩, ?_⟩
        exact bS (bS (bS (bS (bS HB4.out (Nat.le_refl _) _) (Nat.le_refl _) _) (Nat.le_refl _) _) (Nat.le_refl _) _) (Nat.le_refl _) _
    · have i0 : ∀ (a b c d e : Value) W, (Instr.index 87 (.agg #[a, b, c, d, e]) (.int .i64 4)).run Tryd.prog W = .ok e W := fun _ _ _ _ _ _ => by kernel_rfl
      have a0 : ∀ v W, (Instr.typeAssert (.iface 85 v) 20 85 true).run Tryd.prog W = .ok (.tuple #[v, .bool true]) W := fun _ _ => by kernel_rfl
      have a1 : ∀ v W, (Instr.typeAssert (.iface 86 v) 20 85 true).run Tryd.prog W = .ok (.tuple #[.pointer none, .bool false]) W := fun _ _ => by kernel_rfl
      have a2 : ∀ v W, (Instr.typeAssert (.iface 86 v) 20 86 true).run Tryd.prog W = .ok (.tuple #[v, .bool true]) W := fun _ _ => by kernel_rfl
      obtain rfl : q = 4 := by omega
      have HY := Lib.hid hy
      have HYQ : Hid (∀ W, Blk W (w.heap.size + 1) 29 #[.int .i64 (ocl L 4 0), .int .i64 (ocl L 4 1), .int .i64 (ocl L 4 2), .int .i64 (ocl L 4 3), .int .i64 (ocl L 4 4)] → Blk (W.setCell ⟨w.heap.size + 1, 4, none⟩ (.int .i64 (opV L 4))) (w.heap.size + 1) 29 #[.int .i64 (ocl L 5 0), .int .i64 (ocl L 5 1), .int .i64 (ocl L 5 2), .int .i64 (ocl L 5 3), .int .i64 (ocl L 5 4)]) := fun W h => by
        rw [ocl_other L 4 0 (by decide), ocl_other L 4 1 (by decide), ocl_other L 4 2 (by decide), ocl_other L 4 3 (by decide), ocl_at L 4]
        simpa using Blk.setq h 4 (.int .i64 (opV L 4))
      obtain ⟨re, hre⟩ : ∃ r, r = pwE 4 (L.getD 4 st0) := ⟨_, rfl⟩
      obtain ⟨rv, hrv⟩ : ∃ r, r = opV L 4 := ⟨_, rfl⟩
      have KP := Lib.hid (fun W => parse_c (L.getD 4 st0) W (by have := HS.out 4 (by decide); omega) rv re (by rw [hrv]; rfl) (by rw [hre]; rfl))
      have HE : Hid (opF L 5 = re) := by unfold Hid; rw [opF, if_neg (by rw [HF.out]; decide), hre]
      rw [← hrv] at HYQ
      obtain ⟨bs, off, rfl, hltb, hat⟩ := (HL.out.below hbl).2.2 (by decide)
      have d0 : wr.cell? ⟨bs, off + 4, none⟩ = some (.string (L.getD 4 st0)) := by have := hat 4 (by decide) 0 _ rfl; simpa using this
      have HZ := Lib.hid hz
      have hyl := hy.lt
      have HBL := Lib.hid hbl
      clear hy hat hrv hre hz hbl hq
      generalize L.getD 4 st0 = sq at *
      go_wp2_with fail
      refine (KP.out _).mono ?_
      rintro e w2 ⟨rfl, hb3⟩
      have hy2 := HY.out.t hb3
      have hz2 := HZ.out.t hb3
      have hz3 := Blk.far hz2 (a := ⟨w.heap.size + 1, 4, none⟩) (by show w.heap.size ≠ w.heap.size + 1; omega) (.int .i64 rv)
      have hb4 := bS (p := ⟨w.heap.size + 1, 4, none⟩) (bT HBL.out hb3) (by show w.heap.size ≤ w.heap.size + 1; omega) (.int .i64 rv)
      have HY3 := Lib.hid (HYQ.out w2 hy2)
      have HZ3 := Lib.hid hz3
      have HB4 := Lib.hid hb4
      obtain ⟨⟨y0, y1, y2, y3, y4⟩, g0, g1, g2, g3, g4⟩ := hy2.a5f
      obtain ⟨⟨z0, z1, z2, z3, z4⟩, f0, f1, f2, f3, f4⟩ := hz3.a5f
      clear hy2 hz2 hz3 hb4
      by_cases h0 : re = 0
      · subst h0
        go_wp2_with fail
        go_roundw
        case rel => exact ⟨5, _, rfl, by decide, by go_num, HE.out, HY3.out, HZ3.out, HB4.out⟩
        case measure => simp [intOf]
      · have v : (re != 0) = true := by simpa using h0
        have HEE : Hid (opE 5 L = re) := by
          have e5 := opF_stick L 5 (by rw [HE.out]; exact h0) 5 (by decide)
          unfold Hid opE
          rw [if_neg (fun h => h rfl), e5, HE.out, if_pos h0]
        have H0 := Lib.hid h0
        clear h0
        go_wp2_with fail
        refine bodyPost_ret (v := .tuple #[.agg #[.int .i64 0, .int .i64 0, .int .i64 0, .int .i64 0, .int .i64 0], .int .i64 re]) (by simp [results, Tryd.results21, go_sem, z0, z1, z2, z3, z4]) rfl ⟨Or.inl ⟨by rw [HEE.out]; exact H0.out, by rw [HEE.out]⟩, ?_⟩
        exact bS (bS (bS (bS (bS HB4.out (Nat.le_refl _) _) (Nat.le_refl _) _) (Nat.le_refl _) _) (Nat.le_refl _) _) (Nat.le_refl _) _
    --NEG
    · obtain rfl : q = 5 := by omega
      have HEE : Hid (opE 5 L = orE (opV L 0) (opV L 1) (opV L 2) (opV L 3) (opV L 4)) := by
        unfold Hid opE
        rw [if_neg (fun h => h rfl), HF.out, if_neg (by decide)]
      have hy5 : Blk wr (w.heap.size + 1) 29 #[.int .i64 (opV L 0), .int .i64 (opV L 1), .int .i64 (opV L 2), .int .i64 (opV L 3), .int .i64 (opV L 4)] := hy
      have HR : Hid (∀ e W, ((opE 5 L ≠ 0 ∧ e = .returned (.tuple #[.agg #[.int .i64 0, .int .i64 0, .int .i64 0, .int .i64 0, .int .i64 0], .int .i64 (opE 5 L)])) ∨ (opE 5 L = 0 ∧ e = .returned (.tuple #[.agg #[.int .i64 (opV L 0), .int .i64 (opV L 1), .int .i64 (opV L 2), .int .i64 (opV L 3), .int .i64 (opV L 4)], .int .i64 0]))) → Below w.heap.size w W → OParR 5 L w e W) := fun e W h1 h2 => ⟨h1, h2⟩
      clear hy
      generalize opV L 0 = x0 at *
      generalize opV L 1 = x1 at *
      generalize opV L 2 = x2 at *
      generalize opV L 3 = x3 at *
      generalize opV L 4 = x4 at *
      have KC := Lib.hid (fun W => ocheck_c x0 x1 x2 x3 x4 W)
      obtain ⟨q0, hq0⟩ : ∃ q, q = orE x0 x1 x2 x3 x4 := ⟨_, rfl⟩
      rw [← hq0] at HEE KC
      obtain ⟨⟨y0, y1, y2, y3, y4⟩, g0, g1, g2, g3, g4⟩ := hy5.a5f
      have HY := Lib.hid hy5
      have HZ := Lib.hid hz
      have HBL := Lib.hid hbl
      have hyl := hy5.lt
      clear hy5 hz hbl hq hq0
      go_wp2_with fail
      refine (KC.out _).mono ?_
      rintro e w2 ⟨rfl, hb3⟩
      have hb4 := bT HBL.out hb3
      obtain ⟨⟨z0, z1, z2, z3, z4⟩, f0, f1, f2, f3, f4⟩ := (HZ.out.t hb3).a5f
      obtain ⟨⟨y0, y1, y2, y3, y4⟩, g0, g1, g2, g3, g4⟩ := (HY.out.t hb3).a5f
      have HBW : Hid (∀ v0 v1 v2 v3 v4, Below w.heap.size w (((((w2.setCell ⟨w.heap.size, 0, none⟩ v0).setCell ⟨w.heap.size, 1, none⟩ v1).setCell ⟨w.heap.size, 2, none⟩ v2).setCell ⟨w.heap.size, 3, none⟩ v3).setCell ⟨w.heap.size, 4, none⟩ v4)) := fun v0 v1 v2 v3 v4 => bS (bS (bS (bS (bS hb4 (Nat.le_refl _) _) (Nat.le_refl _) _) (Nat.le_refl _) _) (Nat.le_refl _) _) (Nat.le_refl _) _
      clear hb4
      by_cases h0 : q0 = 0
      · have HE0 : Hid (opE 5 L = 0) := HEE.out.trans h0
        have v : (q0 != 0) = false := by simpa using h0
        clear h0
        go_wp2_with fail
        refine bodyPost_ret (v := .tuple #[.agg #[.int .i64 x0, .int .i64 x1, .int .i64 x2, .int .i64 x3, .int .i64 x4], .int .i64 0]) (by simp [results, Tryd.results21, go_sem, z0, z1, z2, z3, z4]) rfl (HR.out _ _ (Or.inr ⟨HE0.out, rfl⟩) ?_)
        exact HBW.out _ _ _ _ _
      · have H0 := Lib.hid h0
        have v : (q0 != 0) = true := by simpa using h0
        clear h0
        go_wp2_with fail
        refine bodyPost_ret (v := .tuple #[.agg #[.int .i64 0, .int .i64 0, .int .i64 0, .int .i64 0, .int .i64 0], .int .i64 q0]) (by simp [results, Tryd.results21, go_sem, z0, z1, z2, z3, z4]) rfl (HR.out _ _ (Or.inl ⟨by rw [HEE.out]; exact H0.out, by rw [HEE.out]⟩) ?_)
        exact HBW.out _ _ _ _ _
--%%
end Go.Proofs.YtfhbnojhmeodiaaDoor
