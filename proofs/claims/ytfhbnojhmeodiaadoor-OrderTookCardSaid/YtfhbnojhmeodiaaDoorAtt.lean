/-
  Contracts of attach.one, Sum and Right. Conditions as named.
-/
import Derived.Test.YtfhbnojhmeodiaaDoorAttP
namespace Go.Proofs.YtfhbnojhmeodiaaDoor
set_option linter.unusedVariables false
open Go.RowKit
section
variable {w : World} {g : Nat} {t : TypeId} {a b c d e f x : Value}
theorem Blk.a6f (h : Blk w g t #[a, b, c, d, e, f]) : (w.cell? ⟨g, 0, none⟩ = some a ∧ w.cell? ⟨g, 1, none⟩ = some b ∧ w.cell? ⟨g, 2, none⟩ = some c ∧ w.cell? ⟨g, 3, none⟩ = some d ∧ w.cell? ⟨g, 4, none⟩ = some e ∧ w.cell? ⟨g, 5, none⟩ = some f) ∧
    w.frozen? ⟨g, 0, none⟩ = false ∧ w.frozen? ⟨g, 1, none⟩ = false ∧ w.frozen? ⟨g, 2, none⟩ = false ∧ w.frozen? ⟨g, 3, none⟩ = false ∧ w.frozen? ⟨g, 4, none⟩ = false ∧ w.frozen? ⟨g, 5, none⟩ = false :=
  ⟨⟨h.cell 0, h.cell 1, h.cell 2, h.cell 3, h.cell 4, h.cell 5⟩, h.free 0, h.free 1, h.free 2, h.free 3, h.free 4, h.free 5⟩
theorem Blk.a7 (h : Blk w g t #[a, b, c, d, e, f, x]) : w.cell? ⟨g, 0, none⟩ = some a ∧ w.cell? ⟨g, 1, none⟩ = some b ∧ w.cell? ⟨g, 2, none⟩ = some c ∧ w.cell? ⟨g, 3, none⟩ = some d ∧ w.cell? ⟨g, 4, none⟩ = some e ∧ w.cell? ⟨g, 5, none⟩ = some f ∧ w.cell? ⟨g, 6, none⟩ = some x :=
  ⟨h.cell 0, h.cell 1, h.cell 2, h.cell 3, h.cell 4, h.cell 5, h.cell 6⟩
end
--%%
theorem one_e (id pr am ra to tk ar net free : Int) (w : World) (h : OdOK ⟨id, pr, am, ra, to, tk, ar⟩) (hn : mrB net = true) (he : oneE ⟨id, pr, am, ra, to, tk, ar⟩ net ≠ 0) :
    Calls Tryd.prog 38 #[.int .i64 net, .int .i64 free, .agg #[.int .i64 id, .int .i64 pr, .int .i64 am, .int .i64 ra, .int .i64 to, .int .i64 tk, .int .i64 ar]] w fun e w' => e = .returned (.tuple #[.agg #[.int .i64 0, .int .i64 0, .int .i64 0, .int .i64 0, .int .i64 0, .int .i64 0], .int .i64 10]) ∧ Below w.heap.size w w' := by
  have har := h.ar
  have hn' := mr_iff.1 hn
  dsimp only at har
  have z := (Blk.mk w 39 #[.int .i64 id, .int .i64 pr, .int .i64 am, .int .i64 ra, .int .i64 to, .int .i64 tk, .int .i64 ar]).alloc (.cells #[.int .i64 0, .int .i64 0, .int .i64 0, .int .i64 0, .int .i64 0, .int .i64 0] 41)
  have y := Blk.mk (w.alloc (.cells #[.int .i64 id, .int .i64 pr, .int .i64 am, .int .i64 ra, .int .i64 to, .int .i64 tk, .int .i64 ar] 39)) 41 #[.int .i64 0, .int .i64 0, .int .i64 0, .int .i64 0, .int .i64 0, .int .i64 0]
  rw [World.size_alloc] at y
  have hb0 := bA (below1 w (.cells #[.int .i64 id, .int .i64 pr, .int .i64 am, .int .i64 ra, .int .i64 to, .int .i64 tk, .int .i64 ar] 39)) (.cells #[.int .i64 0, .int .i64 0, .int .i64 0, .int .i64 0, .int .i64 0, .int .i64 0] 41)
  have hb1 := bA hb0 (.cells #[.int .i64 ar] 2)
  have z1 := z.alloc (.cells #[.int .i64 ar] 2)
  have y1 := y.alloc (.cells #[.int .i64 ar] 2)
  have hma : mrB ar = true := mr_t (by omega)
  by_cases h1 : ordE ⟨id, pr, am, ra, to, tk, ar⟩ net = 0
  case neg =>
    have K := Lib.hid (ordered_e id pr am ra to tk ar net · h hn h1)
    obtain ⟨p0, p1, p2, p3, p4, p5, p6⟩ := z1.a7
    clear h he hn h1 har hn'
    go_enter Tryd.func38, Tryd.ntmps38
    go_wp2_with fail
    refine (right1 _ _ _ ar _ (by simp [cell_alloc])).mono ?_
    rintro e w1 ⟨rfl, rfl⟩
    go_wp2_with fail
    refine (K.out _).mono ?_
    rintro e w2 ⟨rfl, hb2⟩
    have y2 := y1.t hb2
    obtain ⟨⟨q0, q1, q2, q3, q4, q5⟩, f0, f1, f2, f3, f4, f5⟩ := y2.a6f
    go_wp2_with fail
    refine bodyPost_ret (v := .tuple #[.agg #[.int .i64 0, .int .i64 0, .int .i64 0, .int .i64 0, .int .i64 0, .int .i64 0], .int .i64 10]) (by simp [results, Tryd.results38, go_sem, q0, q1, q2, q3, q4, q5]) rfl ⟨rfl, ?_⟩
    have hb3 := bT hb1 hb2
    exact bS (bS (bS (bS (bS (bS hb3 (Nat.le_succ _) _) (Nat.le_succ _) _) (Nat.le_succ _) _) (Nat.le_succ _) _) (Nat.le_succ _) _) (Nat.le_succ _) _
  have hod := ordV_bd h hn' h1
  have hd : ¬ oneD ⟨id, pr, am, ra, to, tk, ar⟩ net ≤ 100000000000 := fun hc => he (by unfold oneE; rw [if_neg (by simpa using h1), if_pos hc])
  have hd' : oneD ⟨id, pr, am, ra, to, tk, ar⟩ net = ordV ⟨id, pr, am, ra, to, tk, ar⟩ net + ar := rfl
  have K := Lib.hid (ordered_t id pr am ra to tk ar net · h hn h1)
  generalize oneD ⟨id, pr, am, ra, to, tk, ar⟩ net = od at *
  generalize ordV ⟨id, pr, am, ra, to, tk, ar⟩ net = ov at *
  have K2 := Lib.hid (add_f ov ar · (fun hc => by have := mr_iff.1 hc.2.2; omega))
  obtain ⟨o0, o1⟩ := hod
  obtain ⟨p0, p1, p2, p3, p4, p5, p6⟩ := z1.a7
  clear h he hn h1 har hn' hd hd'
  go_enter Tryd.func38, Tryd.ntmps38
  go_wp2_with fail
  refine (right1 _ _ _ ar _ (by simp [cell_alloc])).mono ?_
  rintro e w1 ⟨rfl, rfl⟩
  go_wp2_with fail
  refine (K.out _).mono ?_
  rintro e w2 ⟨rfl, hb2⟩
  have z2 := z1.t hb2
  have y2 := y1.t hb2
  have q6 := z2.cell 6
  go_wp2_with fail
  refine (K2.out _).mono ?_
  rintro e w3 ⟨rfl, hb3⟩
  have y3 := y2.t hb3
  obtain ⟨⟨q0, q1, q2, q3, q4, q5⟩, f0, f1, f2, f3, f4, f5⟩ := y3.a6f
  clear q6
  go_wp2_with fail
  refine bodyPost_ret (v := .tuple #[.agg #[.int .i64 0, .int .i64 0, .int .i64 0, .int .i64 0, .int .i64 0, .int .i64 0], .int .i64 10]) (by simp [results, Tryd.results38, go_sem, q0, q1, q2, q3, q4, q5]) rfl ⟨rfl, ?_⟩
  have hb4 := bT (bT hb1 hb2) hb3
  exact bS (bS (bS (bS (bS (bS hb4 (Nat.le_succ _) _) (Nat.le_succ _) _) (Nat.le_succ _) _) (Nat.le_succ _) _) (Nat.le_succ _) _) (Nat.le_succ _) _
theorem one_t (id pr am ra to tk ar net free : Int) (w : World) (h : OdOK ⟨id, pr, am, ra, to, tk, ar⟩) (hn : mrB net = true) (hf : 0 ≤ free ∧ free ≤ 1000000000000) (he : oneE ⟨id, pr, am, ra, to, tk, ar⟩ net = 0) (z5 : Tk) (hz5 : Hid (z5 = oneV ⟨id, pr, am, ra, to, tk, ar⟩ net free)) :
    Calls Tryd.prog 38 #[.int .i64 net, .int .i64 free, .agg #[.int .i64 id, .int .i64 pr, .int .i64 am, .int .i64 ra, .int .i64 to, .int .i64 tk, .int .i64 ar]] w fun e w' => e = .returned (.tuple #[.agg #[.int .i64 z5.o, .int .i64 z5.br, .int .i64 z5.or, .int .i64 z5.du, .int .i64 z5.ta, .int .i64 z5.ca], .int .i64 0]) ∧ Below w.heap.size w w' := by
  have har := h.ar
  have hn' := mr_iff.1 hn
  dsimp only at har
  have z := (Blk.mk w 39 #[.int .i64 id, .int .i64 pr, .int .i64 am, .int .i64 ra, .int .i64 to, .int .i64 tk, .int .i64 ar]).alloc (.cells #[.int .i64 0, .int .i64 0, .int .i64 0, .int .i64 0, .int .i64 0, .int .i64 0] 41)
  have y := Blk.mk (w.alloc (.cells #[.int .i64 id, .int .i64 pr, .int .i64 am, .int .i64 ra, .int .i64 to, .int .i64 tk, .int .i64 ar] 39)) 41 #[.int .i64 0, .int .i64 0, .int .i64 0, .int .i64 0, .int .i64 0, .int .i64 0]
  rw [World.size_alloc] at y
  have hb0 := bA (below1 w (.cells #[.int .i64 id, .int .i64 pr, .int .i64 am, .int .i64 ra, .int .i64 to, .int .i64 tk, .int .i64 ar] 39)) (.cells #[.int .i64 0, .int .i64 0, .int .i64 0, .int .i64 0, .int .i64 0, .int .i64 0] 41)
  have hb1 := bA hb0 (.cells #[.int .i64 ar] 2)
  have z1 := z.alloc (.cells #[.int .i64 ar] 2)
  have y1 := y.alloc (.cells #[.int .i64 ar] 2)
  have hma : mrB ar = true := mr_t (by omega)
  obtain ⟨h1, hd⟩ := oneE_zero he
  have hod := ordV_bd h hn' h1
  have hd' : oneD ⟨id, pr, am, ra, to, tk, ar⟩ net = ordV ⟨id, pr, am, ra, to, tk, ar⟩ net + ar := rfl
  have K := Lib.hid (ordered_t id pr am ra to tk ar net · h hn h1)
  have HZ : Hid (z5 = ⟨id, ar, ordV ⟨id, pr, am, ra, to, tk, ar⟩ net, oneD ⟨id, pr, am, ra, to, tk, ar⟩ net, max 0 (min (oneD ⟨id, pr, am, ra, to, tk, ar⟩ net) free), oneD ⟨id, pr, am, ra, to, tk, ar⟩ net - max 0 (min (oneD ⟨id, pr, am, ra, to, tk, ar⟩ net) free)⟩) := hz5.out
  generalize oneD ⟨id, pr, am, ra, to, tk, ar⟩ net = od at *
  generalize ordV ⟨id, pr, am, ra, to, tk, ar⟩ net = ov at *
  subst hd'
  have K2 := Lib.hid (add_t ov ar · (mr_t (by omega)) (mr_t (by omega)) (mr_t (by omega)))
  obtain ⟨o0, o1⟩ := hod
  obtain ⟨r0, r1⟩ := har
  obtain ⟨g0, g1⟩ := hf
  obtain ⟨tv, htv⟩ : ∃ tv, max 0 (min (ov + ar) free) = tv := ⟨_, rfl⟩
  rw [htv] at HZ
  have tv0 : 0 ≤ tv := by omega
  have tv1 : tv ≤ 1000000000000 := by omega
  obtain ⟨p0, p1, p2, p3, p4, p5, p6⟩ := z1.a7
  clear h he hn h1 hn' hd hz5
  go_enter Tryd.func38, Tryd.ntmps38
  go_wp2_with fail
  refine (right1 _ _ _ ar _ (by simp [cell_alloc])).mono ?_
  rintro e w1 ⟨rfl, rfl⟩
  go_wp2_with fail
  refine (K.out _).mono ?_
  rintro e w2 ⟨rfl, hb2⟩
  have z2 := z1.t hb2
  have y2 := y1.t hb2
  have q6 := z2.cell 6
  go_wp2_with fail
  refine (K2.out _).mono ?_
  rintro e w3 ⟨rfl, hb3⟩
  have y3 := y2.t hb3
  have z3 := z2.t hb3
  clear q6 p0 p1 p2 p3 p4 p5 p6
  obtain ⟨⟨q0, q1, q2, q3, q4, q5⟩, f0, f1, f2, f3, f4, f5⟩ := y3.a6f
  have s0 := z3.cell 0
  have s6 := z3.cell 6
  go_wp2_with fail
  refine bodyPost_ret (v := .tuple #[.agg #[.int .i64 id, .int .i64 ar, .int .i64 ov, .int .i64 (ov + ar), .int .i64 tv, .int .i64 (ov + ar - tv)], .int .i64 0]) (by simp [results, Tryd.results38, go_sem, q0, q1, q2, q3, q4, q5]) rfl ⟨by rw [HZ.out], ?_⟩
  have hb4 := bT (bT hb1 hb2) hb3
  exact bS (bS (bS (bS (bS (bS hb4 (Nat.le_succ _) _) (Nat.le_succ _) _) (Nat.le_succ _) _) (Nat.le_succ _) _) (Nat.le_succ _) _) (Nat.le_succ _) _
--%%
end Go.Proofs.YtfhbnojhmeodiaaDoor
